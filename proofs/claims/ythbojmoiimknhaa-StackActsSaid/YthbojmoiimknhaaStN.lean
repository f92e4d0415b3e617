import Derived.Test.YthbojmoiimknhaaStM
set_option linter.unusedSimpArgs false
set_option linter.unusedVariables false
namespace Go.Ax
open Go.Proofs

def wantOf (ls : List LFrm) (q : Nat) : List Int := (ls.drop q).reverse.flatMap fun y => seenF y.f
theorem wantOf_succ {ls : List LFrm} {q : Nat} {y : LFrm} (h : ls[q]? = some y) : wantOf ls q = wantOf ls (q + 1) ++ seenF y.f := by
  have hq := (List.getElem?_eq_some_iff.1 h)
  rw [wantOf, List.drop_eq_getElem_cons hq.1, hq.2, List.reverse_cons, List.flatMap_append]
  simp [wantOf]
theorem seenF_len (f : Frm) : (seenF f).length ≤ f.enc.length := by
  rw [enc_length, seenF, List.length_append]
  split <;> simp
theorem wantOf_len (ls : List LFrm) (q : Nat) : (wantOf ls q).length ≤ (encL (ls.map LFrm.f)).length := by
  have key : ∀ l : List LFrm, (l.flatMap fun y => seenF y.f).length ≤ (encL (l.map LFrm.f)).length := by
    intro l
    induction l with
    | nil => simp
    | cons a l ih =>
      have := seenF_len a.f
      have h1 : (encL ((a :: l).map LFrm.f)).length = a.f.enc.length + (encL (l.map LFrm.f)).length := by simp [encL]
      rw [h1, List.flatMap_cons, List.length_append]; omega
  have rev : ∀ l : List LFrm, (encL (l.reverse.map LFrm.f)).length = (encL (l.map LFrm.f)).length := by
    intro l
    induction l with
    | nil => rfl
    | cons a l ih =>
      rw [List.reverse_cons, List.map_append, encL, List.flatMap_append, List.length_append]
      have h1 : (encL ((a :: l).map LFrm.f)).length = a.f.enc.length + (encL (l.map LFrm.f)).length := by simp [encL]
      have h2 : (List.flatMap Frm.enc (l.reverse.map LFrm.f)).length = (encL (l.map LFrm.f)).length := ih
      rw [h1, h2]; simp; omega
  have dr : (encL ((ls.drop q).map LFrm.f)).length ≤ (encL (ls.map LFrm.f)).length := by
    have h1 : encL (ls.map LFrm.f) = encL ((ls.take q).map LFrm.f) ++ encL ((ls.drop q).map LFrm.f) := by
      rw [encL, encL, encL, ← List.flatMap_append, ← List.map_append, List.take_append_drop]
    rw [h1, List.length_append]; omega
  have := key (ls.drop q).reverse
  rw [rev] at this
  exact Nat.le_trans this dr

/-- The plain list, half changed. -/
def curL (nn : Int) (ls : List LFrm) (q : Nat) : List LFrm := ls.take q ++ (ls.drop q).map (LFrm.upd nn)
theorem curL_at {nn : Int} {ls : List LFrm} {q : Nat} {y : LFrm} (h : ls[q]? = some y) : curL nn ls (q + 1) = ls.take q ++ y :: (ls.drop (q + 1)).map (LFrm.upd nn) ∧ curL nn ls q = ls.take q ++ y.upd nn :: (ls.drop (q + 1)).map (LFrm.upd nn) := by
  have hq := (List.getElem?_eq_some_iff.1 h)
  refine ⟨?_, ?_⟩
  · rw [curL, List.take_add_one, h]; simp
  · rw [curL, List.drop_eq_getElem_cons hq.1, hq.2]; simp
theorem curL_len (nn : Int) (ls : List LFrm) (q : Nat) : (curL nn ls q).length = ls.length := by simp [curL]; omega
theorem curL_ids {nn : Int} {ls : List LFrm} {q : Nat} {z : LFrm} (h : z ∈ curL nn ls q) : ∃ y ∈ ls, y.id = z.id := by
  rcases List.mem_append.1 h with h | h
  · exact ⟨z, List.mem_of_mem_take h, rfl⟩
  · obtain ⟨y, hy, rfl⟩ := List.mem_map.1 h
    exact ⟨y, List.mem_of_mem_drop hy, rfl⟩

/-- All frames of the list are changed, the last one first. -/
theorem map_rows {Ret : Fr → AMem → Prop} {k0 : List It} {M : AMem} {ls : List LFrm} {kk c17 : Nat} {nn : Int} (hl : ListAt M ls (some kk)) (h17 : M[c17]? = some (.cells [V.int nn])) (h17k : c17 ≠ kk) (h17y : ∀ y ∈ ls, y.id ≠ c17) (hls : ls.length ≤ 100) (hlsl : ∀ y ∈ ls, y.id < M.length) (hok : ∀ y ∈ ls, y.f.ok) (hw : (encL (ls.map LFrm.f)).length ≤ 100000)
    (F : Fr) (f7 : look F 7 = .arr kk 0 ls.length 4) (f17 : look F 17 = .ptr c17 0) (f19 : look F 19 = .list .full []) (f20 : look F 20 = V.int ((ls.length : Int) - 1))
    (hk : ∀ F' M' tw, (∀ t, t < 71 ∨ 127 < t → t ≠ 19 → t ≠ 20 → t ≠ 21 → t ≠ 22 → look F' t = look F t) → look F' 19 = .list tw ((wantOf ls 0).map V.int) → ListAt M' (ls.map (LFrm.upd nn)) (some kk) → (∀ j, j < M.length → (∀ y ∈ ls, y.id ≠ j) → j ≠ kk → M'[j]? = M[j]?) → M.length ≤ M'.length → W Try.prog 301 Ret k0 F' M') :
    W Try.prog 301 Ret (.code (part [1,1,1,1,1,1,0,1,1,1,1,1,0,1,1,0,1,1,1,1,1,1,1,1,1,0,1] body3) :: k0) F M := by
  have ne : ∀ {t : Nat}, (t < 71 ∨ 127 < t) → ∀ {u : Nat}, 71 ≤ u → u ≤ 127 → (t = u) = False := fun h _ h1 h2 => eq_false (by omega)
  have hkl := lt_of_atS (hl.fsome kk rfl).choose_spec.1
  have h17L := lt_of_atS h17
  (repeat (first | refine W_seq ?_ | refine W_block ?_ | refine W_blk ?_ | refine W_skip ?_))
  refine W_loop (α := Nat × Tag) (fun q F' M' => q.1 ≤ ls.length ∧ (∀ t, t < 71 ∨ 127 < t → t ≠ 19 → t ≠ 20 → t ≠ 21 → t ≠ 22 → look F' t = look F t) ∧ look F' 19 = .list q.2 ((wantOf ls q.1).map V.int) ∧ look F' 20 = V.int ((q.1 : Int) - 1) ∧ TagNew M.length q.2 M' ∧ M.length ≤ M'.length ∧
      (∀ j, j < M.length → (∀ y ∈ ls, y.id ≠ j) → j ≠ kk → M'[j]? = M[j]?) ∧ ListAt M' (curL nn ls q.1) (some kk))
    (fun q => q.1) (ls.length, .full) ⟨Nat.le_refl _, fun _ _ _ _ _ _ => rfl, by rw [f19]; simp [wantOf], f20, .inl rfl, Nat.le_refl _, fun _ _ _ _ => rfl, by simpa [curL] using hl⟩ ?_
  rintro ⟨q, tw⟩ F1 M1 ⟨hq, hF, g19, g20, htw, hml, hkeep, hcur⟩
  simp only at hq g19 g20 htw hcur
  have g7 := (hF 7 (by decide) (by decide) (by decide) (by decide) (by decide)).trans f7
  have g17 := (hF 17 (by decide) (by decide) (by decide) (by decide) (by decide)).trans f17
  cases q with
  | zero =>
    have hz : ((0 : Int) ≤ (((0 : Nat) : Int) - 1)) = False := eq_false (by omega)
    (repeat (first | refine W_seq ?_ | refine W_block ?_ | refine W_blk ?_ | refine W_skip ?_))
    (refine W_region [] (by rfl) fun K hK => ?_; simp only [go_sem, Nat.reduceEqDiff, Nat.reduceLT, Nat.reduceAdd, Nat.reduceLeDiff, Nat.reduceMul, Nat.reduceSub, Int.reduceLE, Int.reduceLT, Int.reduceToNat, Int.reducePow, Int.reduceEq, g20, hz])
    (refine WRun.done _ _ (hK _ _ ?_); clear hK)
    (repeat (first | refine W_seq ?_ | refine W_block ?_ | refine W_blk ?_ | refine W_skip ?_))
    refine W_cond_false (by simp only [go_sem, Nat.reduceEqDiff, Nat.reduceLT, Nat.reduceAdd, Nat.reduceLeDiff, Nat.reduceMul, Nat.reduceSub, Int.reduceLE, Int.reduceLT, Int.reduceToNat, Int.reducePow, Int.reduceEq]; rfl) ?_
    refine W_exit (Qof_code (Qof_stop (Qof_blk_same ?_)))
    refine hk _ M1 tw (fun t ht h19 h20 h21 h22 => ?_) ?_ (by simpa [curL] using hcur) hkeep hml
    · simp only [go_sem, Nat.reduceEqDiff, Nat.reduceLT, Nat.reduceAdd, Nat.reduceLeDiff, Nat.reduceMul, Nat.reduceSub, Int.reduceLE, Int.reduceLT, Int.reduceToNat, Int.reducePow, Int.reduceEq, ne ht, if_false]
      exact hF t ht h19 h20 h21 h22
    · simp only [go_sem, Nat.reduceEqDiff, Nat.reduceLT, Nat.reduceAdd, Nat.reduceLeDiff, Nat.reduceMul, Nat.reduceSub, Int.reduceLE, Int.reduceLT, Int.reduceToNat, Int.reducePow, Int.reduceEq, g19]
  | succ q =>
    have hz : ((0 : Int) ≤ (((q + 1 : Nat) : Int) - 1)) = True := eq_true (by omega)
    have e20 : (((q + 1 : Nat) : Int) - 1) = (q : Int) := by omega
    rw [e20] at g20
    have hz : ((0 : Int) ≤ (q : Int)) = True := eq_true (by omega)
    obtain ⟨y, hy⟩ : ∃ y, ls[q]? = some y := ⟨_, List.getElem?_eq_getElem (by omega)⟩
    have hym := List.mem_of_getElem? hy
    obtain ⟨hc1, hc2⟩ := curL_at (nn := nn) hy
    rw [hc1] at hcur
    have hAl : (ls.take q).length = q := by simp; omega
    have hBl : ((ls.drop (q + 1)).map (LFrm.upd nn)).length ≤ 1000 := by simp; omega
    have hcurl : (ls.take q ++ y :: (ls.drop (q + 1)).map (LFrm.upd nn)).length = ls.length := by rw [← hc1, curL_len]
    have hyq : (ls.take q ++ y :: (ls.drop (q + 1)).map (LFrm.upd nn))[q]? = some y := by
      rw [List.getElem?_append_right (by omega), hAl, Nat.sub_self]; rfl
    obtain ⟨ck, hck, _⟩ := hcur.fsome kk rfl
    have c3 := cell_at hcur hyq hck 3 (by decide)
    have c3 : ck[q * 4 + 3]? = some (V.arr y.id 0 y.f.l.length 1) := c3
    have hqlt : (q : Int) < (ls.length : Int) := by omega
    have h17M : M1[c17]? = some (.cells [V.int nn]) := (hkeep _ h17L (fun z hz => h17y z hz) h17k).trans h17
    have hwl := wantOf_len ls (q + 1)
    have hidsL : ∀ z ∈ ls.take q ++ y :: (ls.drop (q + 1)).map (LFrm.upd nn), z.id < M.length := by
      intro z hz
      rw [← hc1] at hz
      obtain ⟨u, hu, e⟩ := curL_ids hz
      rw [← e]; exact hlsl u hu
    (repeat (first | refine W_seq ?_ | refine W_block ?_ | refine W_blk ?_ | refine W_skip ?_))
    (refine W_region [] (by rfl) fun K hK => ?_; simp only [go_sem, Nat.reduceEqDiff, Nat.reduceLT, Nat.reduceAdd, Nat.reduceLeDiff, Nat.reduceMul, Nat.reduceSub, Int.reduceLE, Int.reduceLT, Int.reduceToNat, Int.reducePow, Int.reduceEq, g20, hz])
    (refine WRun.done _ _ (hK _ _ ?_); clear hK)
    (repeat (first | refine W_seq ?_ | refine W_block ?_ | refine W_blk ?_ | refine W_skip ?_))
    refine W_cond_true (by simp only [go_sem, Nat.reduceEqDiff, Nat.reduceLT, Nat.reduceAdd, Nat.reduceLeDiff, Nat.reduceMul, Nat.reduceSub, Int.reduceLE, Int.reduceLT, Int.reduceToNat, Int.reducePow, Int.reduceEq]) ?_
    (repeat (first | refine W_seq ?_ | refine W_block ?_ | refine W_blk ?_ | refine W_skip ?_))
    (refine W_region [] (by rfl) fun K hK => ?_; simp only [go_sem, Nat.reduceEqDiff, Nat.reduceLT, Nat.reduceAdd, Nat.reduceLeDiff, Nat.reduceMul, Nat.reduceSub, Int.reduceLE, Int.reduceLT, Int.reduceToNat, Int.reducePow, Int.reduceEq, g7, g20, hck, c3, hqlt, Int.natCast_nonneg, Int.toNat_natCast, List.head?_drop, Nat.zero_add])
    (refine WRun.done _ _ (hK _ _ ?_); clear hK)
    refine map_row (A := ls.take q) (B := (ls.drop (q + 1)).map (LFrm.upd nn)) (y := y) (nn := nn) (want := wantOf ls (q + 1)) (tw := tw) (c17 := c17) (kk := kk) (L := M.length) hcur h17M h17k (fun e => h17y y hym e.symm) htw hml hkl (hlsl y hym) h17L hidsL (by omega) hBl (hok y hym).2.2 (by omega) ls.length hcurl.symm _ ?_ ?_ ?_ ?_ ?_ ?_ ?_ ?_
    · simp only [go_sem, Nat.reduceEqDiff, Nat.reduceLT, Nat.reduceAdd, Nat.reduceLeDiff, Nat.reduceMul, Nat.reduceSub, Int.reduceLE, Int.reduceLT, Int.reduceToNat, Int.reducePow, Int.reduceEq, g7]
    · simp only [go_sem, Nat.reduceEqDiff, Nat.reduceLT, Nat.reduceAdd, Nat.reduceLeDiff, Nat.reduceMul, Nat.reduceSub, Int.reduceLE, Int.reduceLT, Int.reduceToNat, Int.reducePow, Int.reduceEq, g17]
    · simp only [go_sem, Nat.reduceEqDiff, Nat.reduceLT, Nat.reduceAdd, Nat.reduceLeDiff, Nat.reduceMul, Nat.reduceSub, Int.reduceLE, Int.reduceLT, Int.reduceToNat, Int.reducePow, Int.reduceEq, g19]
    · simp only [go_sem, Nat.reduceEqDiff, Nat.reduceLT, Nat.reduceAdd, Nat.reduceLeDiff, Nat.reduceMul, Nat.reduceSub, Int.reduceLE, Int.reduceLT, Int.reduceToNat, Int.reducePow, Int.reduceEq, g20, hAl]
    · simp only [go_sem, Nat.reduceEqDiff, Nat.reduceLT, Nat.reduceAdd, Nat.reduceLeDiff, Nat.reduceMul, Nat.reduceSub, Int.reduceLE, Int.reduceLT, Int.reduceToNat, Int.reducePow, Int.reduceEq]
    · simp only [go_sem, Nat.reduceEqDiff, Nat.reduceLT, Nat.reduceAdd, Nat.reduceLeDiff, Nat.reduceMul, Nat.reduceSub, Int.reduceLE, Int.reduceLT, Int.reduceToNat, Int.reducePow, Int.reduceEq]
    · simp only [go_sem, Nat.reduceEqDiff, Nat.reduceLT, Nat.reduceAdd, Nat.reduceLeDiff, Nat.reduceMul, Nat.reduceSub, Int.reduceLE, Int.reduceLT, Int.reduceToNat, Int.reducePow, Int.reduceEq]
    intro F2 M2 tw2 hF2 k19 htw2 hl2 hkeep2 hml2
    have k7 : look F2 7 = .arr kk 0 ls.length 4 := (hF2 7 (by decide) (by decide) (by decide) (by decide)).trans (by simp only [go_sem, Nat.reduceEqDiff, Nat.reduceLT, Nat.reduceAdd, Nat.reduceLeDiff, Nat.reduceMul, Nat.reduceSub, Int.reduceLE, Int.reduceLT, Int.reduceToNat, Int.reducePow, Int.reduceEq]; exact g7)
    have k17 : look F2 17 = .ptr c17 0 := (hF2 17 (by decide) (by decide) (by decide) (by decide)).trans (by simp only [go_sem, Nat.reduceEqDiff, Nat.reduceLT, Nat.reduceAdd, Nat.reduceLeDiff, Nat.reduceMul, Nat.reduceSub, Int.reduceLE, Int.reduceLT, Int.reduceToNat, Int.reducePow, Int.reduceEq]; exact g17)
    have k20 : look F2 20 = V.int q := (hF2 20 (by decide) (by decide) (by decide) (by decide)).trans (by simp only [go_sem, Nat.reduceEqDiff, Nat.reduceLT, Nat.reduceAdd, Nat.reduceLeDiff, Nat.reduceMul, Nat.reduceSub, Int.reduceLE, Int.reduceLT, Int.reduceToNat, Int.reducePow, Int.reduceEq]; exact g20)
    have hFF : ∀ t, t < 71 ∨ 127 < t → t ≠ 19 → t ≠ 20 → t ≠ 21 → t ≠ 22 → look F2 t = look F t := by
      intro t ht h19 h20 h21 h22
      refine (hF2 t (by omega) h19 h21 h22).trans ?_
      simp only [go_sem, Nat.reduceEqDiff, Nat.reduceLT, Nat.reduceAdd, Nat.reduceLeDiff, Nat.reduceMul, Nat.reduceSub, Int.reduceLE, Int.reduceLT, Int.reduceToNat, Int.reducePow, Int.reduceEq, ne ht, if_false]
      exact hF t ht h19 h20 h21 h22
    have hyq2 : (ls.take q ++ ⟨{ y.f with l := y.f.l.map (newP nn) }, y.id⟩ :: (ls.drop (q + 1)).map (LFrm.upd nn))[q]? = some ⟨{ y.f with l := y.f.l.map (newP nn) }, y.id⟩ := by
      rw [List.getElem?_append_right (by omega), hAl, Nat.sub_self]; rfl
    obtain ⟨ck2, hck2, _⟩ := hl2.fsome kk rfl
    have d0 := cell_at hl2 hyq2 hck2 0 (by decide)
    have d0 : ck2[q * 4]? = some (V.int y.f.kind) := d0
    have d1 := cell_at hl2 hyq2 hck2 1 (by decide)
    have d1 : ck2[q * 4 + 1]? = some (V.int y.f.a) := d1
    have hkeep3 : ∀ j, j < M.length → (∀ y ∈ ls, y.id ≠ j) → j ≠ kk → M2[j]? = M[j]? := fun j h1 h2 h3 => (hkeep2 j h1 (fun e => h2 y hym e.symm)).trans (hkeep j h1 h2 h3)
    have hdl : q * 4 + 1 + 1 ≤ ck2.length := (List.getElem?_eq_some_iff.1 d1).1
    have hwq : IntKind.i64.wrap ((q : Int) - 1) = ((q : Int) - 1) := wrapI _ (by omega) (by omega)
    (repeat (first | refine W_seq ?_ | refine W_block ?_ | refine W_blk ?_ | refine W_skip ?_))
    (refine W_region [] (by rfl) fun K hK => ?_; simp only [go_sem, Nat.reduceEqDiff, Nat.reduceLT, Nat.reduceAdd, Nat.reduceLeDiff, Nat.reduceMul, Nat.reduceSub, Int.reduceLE, Int.reduceLT, Int.reduceToNat, Int.reducePow, Int.reduceEq, k7, k20, hck2, d0, hqlt, Int.natCast_nonneg, Int.toNat_natCast, List.head?_drop, Nat.zero_add, Nat.add_zero])
    (refine WRun.done _ _ (hK _ _ ?_); clear hK)
    (repeat (first | refine W_seq ?_ | refine W_block ?_ | refine W_blk ?_ | refine W_skip ?_))
    by_cases hk2 : y.f.kind = 2
    · have hde : decide (y.f.kind = 2) = true := by simp [hk2]
      have hok2 := htw2.ok
      have hcx := ints_cells1 (wantOf ls (q + 1) ++ y.f.l)
      have hyl := (hok y hym).2.2
      have hll : (wantOf ls (q + 1)).length + y.f.l.length ≤ 1073741823 := by omega
      have hsn : (wantOf ls (q + 1) ++ y.f.l).map V.int ++ [V.int y.f.a] = (wantOf ls q).map V.int := by
        rw [wantOf_succ hy]; simp [seenF, hk2]
      refine W_cond_true (by simp only [go_sem, Nat.reduceEqDiff, Nat.reduceLT, Nat.reduceAdd, Nat.reduceLeDiff, Nat.reduceMul, Nat.reduceSub, Int.reduceLE, Int.reduceLT, Int.reduceToNat, Int.reducePow, Int.reduceEq, hde]) ?_
      (repeat (first | refine W_seq ?_ | refine W_block ?_ | refine W_blk ?_ | refine W_skip ?_))
      (refine W_region [] (by rfl) fun K hK => ?_; simp only [go_sem, Nat.reduceEqDiff, Nat.reduceLT, Nat.reduceAdd, Nat.reduceLeDiff, Nat.reduceMul, Nat.reduceSub, Int.reduceLE, Int.reduceLT, Int.reduceToNat, Int.reducePow, Int.reduceEq, k7, k19, k20, hok2, hcx, hll, hsn, hck2, d1, hqlt, List.length_map, Int.natCast_nonneg, Int.toNat_natCast, List.head?_drop, Nat.zero_add, Nat.add_zero])
      (refine WRun.done _ _ (hK _ _ ?_); clear hK)
      obtain ⟨t1, t2, t3⟩ := htw2.step (by omega : M.length ≤ M2.length)
      have hl3 : ListAt (dropTag tw2 M2 ++ [.tail]) (ls.take q ++ ⟨{ y.f with l := y.f.l.map (newP nn) }, y.id⟩ :: (ls.drop (q + 1)).map (LFrm.upd nn)) (some kk) := by
        refine hl2.same (fun u e => t2 u (by injection e with e; omega)) (fun z hz => t2 _ ?_)
        rcases List.mem_append.1 hz with hz | hz
        · exact hidsL z (by simp [hz])
        · rcases List.mem_cons.1 hz with rfl | hz
          · exact hlsl y hym
          · exact hidsL z (List.mem_append_right _ (List.mem_cons_of_mem _ hz))
      have hck3 : (dropTag tw2 M2 ++ [.tail])[kk]? = some (.cells ck2) := (t2 _ hkl).trans hck2
      have h173 : (dropTag tw2 M2 ++ [.tail])[c17]? = some (.cells [V.int nn]) := (t2 _ h17L).trans ((hkeep3 _ h17L (fun z hz => h17y z hz) h17k).trans h17)
      have hkeep4 : ∀ j, j < M.length → (∀ y ∈ ls, y.id ≠ j) → j ≠ kk → (dropTag tw2 M2 ++ [AObj.tail])[j]? = M[j]? := fun j h1 h2 h3 => (t2 j h1).trans (hkeep3 j h1 h2 h3)
      have hml4 : M.length ≤ (dropTag tw2 M2 ++ [AObj.tail]).length := by omega
      generalize dropTag tw2 M2 ++ [AObj.tail] = M3 at t1 hl3 hck3 h173 hkeep4 hml4 ⊢
      (repeat (first | refine W_seq ?_ | refine W_block ?_ | refine W_blk ?_ | refine W_skip ?_))
      (refine W_draw [] (fun X => X[kk]? = some (.cells ck2) ∧ X[c17]? = some (.cells [V.int nn])) mixed_ (by rfl) ?_ fun K hK => ?_)
      · exact ⟨hck3, h173⟩
      (refine DR_quiet [0, 1, 2, 3, 4, 5, 6, 7, 8, 9, 10, 11] (by decide +kernel) (fun M_ hS_ => ?_) (fun K2 hK2 => ?_); (focus (simp only [go_sem, Nat.reduceEqDiff, Nat.reduceLT, Nat.reduceAdd, Nat.reduceLeDiff, Nat.reduceMul, Nat.reduceSub, Int.reduceLE, Int.reduceLT, Int.reduceToNat, Int.reducePow, Int.reduceEq, hS_, k7, k17, k20, hck3, h173, d1, hqlt, ne_eq, not_false_eq_true, Int.natCast_nonneg, Int.toNat_natCast, List.head?_drop, Nat.zero_add, Nat.add_zero])); simp only [go_sem, Nat.reduceEqDiff, Nat.reduceLT, Nat.reduceAdd, Nat.reduceLeDiff, Nat.reduceMul, Nat.reduceSub, Int.reduceLE, Int.reduceLT, Int.reduceToNat, Int.reducePow, Int.reduceEq, k7, k17, k20, hck3, h173, d1, hqlt, ne_eq, not_false_eq_true, Int.natCast_nonneg, Int.toNat_natCast, List.head?_drop, Nat.zero_add, Nat.add_zero]; refine hK2 _ ?_; clear hK2)
      (refine DR_last' 12 (by decide +kernel) (by decide +kernel) (by decide +kernel) (by simp only [go_sem, Nat.reduceEqDiff, Nat.reduceLT, Nat.reduceAdd, Nat.reduceLeDiff, Nat.reduceMul, Nat.reduceSub, Int.reduceLE, Int.reduceLT, Int.reduceToNat, Int.reducePow, Int.reduceEq, hck3, hdl]) ?_; simp only [go_sem, Nat.reduceEqDiff, Nat.reduceLT, Nat.reduceAdd, Nat.reduceLeDiff, Nat.reduceMul, Nat.reduceSub, Int.reduceLE, Int.reduceLT, Int.reduceToNat, Int.reducePow, Int.reduceEq, hck3, hdl]; refine hK _ _ ?_; clear hK)
      have hl4 := hl3.setA hck3 (newP nn y.f.a)
      rw [hAl, Nat.mul_comm 4 q] at hl4
      have hupd : (⟨{ y.f with l := y.f.l.map (newP nn), a := newP nn y.f.a }, y.id⟩ : LFrm) = y.upd nn := by simp [LFrm.upd, updF, hk2]
      have hl4 : ListAt (M3.set kk (.cells (ck2.take (q * 4 + 1) ++ V.int (newP nn y.f.a) :: ck2.drop (q * 4 + 1 + 1)))) (curL nn ls q) (some kk) := by
        rw [hc2, ← hupd]; exact hl4
      (repeat (first | refine W_seq ?_ | refine W_block ?_ | refine W_blk ?_ | refine W_skip ?_))
      (refine W_region [] (by rfl) fun K hK => ?_; simp only [go_sem, Nat.reduceEqDiff, Nat.reduceLT, Nat.reduceAdd, Nat.reduceLeDiff, Nat.reduceMul, Nat.reduceSub, Int.reduceLE, Int.reduceLT, Int.reduceToNat, Int.reducePow, Int.reduceEq, k20, hwq])
      (refine WRun.done _ _ (hK _ _ ?_); clear hK)
      refine W_stop ⟨(q, .own M2.length), ⟨by show q ≤ ls.length; omega, fun t ht h19 h20 h21 h22 => ?_, ?_, ?_, t1.write hkl _, by simp; exact hml4, fun j h1 h2 h3 => ?_, hl4⟩, Nat.lt_succ_self q⟩
      · simp only [go_sem, Nat.reduceEqDiff, Nat.reduceLT, Nat.reduceAdd, Nat.reduceLeDiff, Nat.reduceMul, Nat.reduceSub, Int.reduceLE, Int.reduceLT, Int.reduceToNat, Int.reducePow, Int.reduceEq, h19, h20, ne ht, if_false]
        exact hFF t ht h19 h20 h21 h22
      · simp only [go_sem, Nat.reduceEqDiff, Nat.reduceLT, Nat.reduceAdd, Nat.reduceLeDiff, Nat.reduceMul, Nat.reduceSub, Int.reduceLE, Int.reduceLT, Int.reduceToNat, Int.reducePow, Int.reduceEq]
      · simp only [go_sem, Nat.reduceEqDiff, Nat.reduceLT, Nat.reduceAdd, Nat.reduceLeDiff, Nat.reduceMul, Nat.reduceSub, Int.reduceLE, Int.reduceLT, Int.reduceToNat, Int.reducePow, Int.reduceEq]
      · rw [List.getElem?_set_ne (Ne.symm h3)]; exact hkeep4 j h1 h2 h3
    · have hde : decide (y.f.kind = 2) = false := by simp [hk2]
      refine W_cond_false (by simp only [go_sem, Nat.reduceEqDiff, Nat.reduceLT, Nat.reduceAdd, Nat.reduceLeDiff, Nat.reduceMul, Nat.reduceSub, Int.reduceLE, Int.reduceLT, Int.reduceToNat, Int.reducePow, Int.reduceEq, hde]) ?_
      have hupd : (⟨{ y.f with l := y.f.l.map (newP nn) }, y.id⟩ : LFrm) = y.upd nn := by simp [LFrm.upd, updF, hk2]
      have hsn : wantOf ls q = wantOf ls (q + 1) ++ y.f.l := by rw [wantOf_succ hy]; simp [seenF, hk2]
      (repeat (first | refine W_seq ?_ | refine W_block ?_ | refine W_blk ?_ | refine W_skip ?_))
      (refine W_region [] (by rfl) fun K hK => ?_; simp only [go_sem, Nat.reduceEqDiff, Nat.reduceLT, Nat.reduceAdd, Nat.reduceLeDiff, Nat.reduceMul, Nat.reduceSub, Int.reduceLE, Int.reduceLT, Int.reduceToNat, Int.reducePow, Int.reduceEq, k20, hwq])
      (refine WRun.done _ _ (hK _ _ ?_); clear hK)
      refine W_stop ⟨(q, tw2), ⟨by show q ≤ ls.length; omega, fun t ht h19 h20 h21 h22 => ?_, ?_, ?_, htw2, by omega, hkeep3, by rw [hc2, ← hupd]; exact hl2⟩, Nat.lt_succ_self q⟩
      · simp only [go_sem, Nat.reduceEqDiff, Nat.reduceLT, Nat.reduceAdd, Nat.reduceLeDiff, Nat.reduceMul, Nat.reduceSub, Int.reduceLE, Int.reduceLT, Int.reduceToNat, Int.reducePow, Int.reduceEq, h19, h20, ne ht, if_false]
        exact hFF t ht h19 h20 h21 h22
      · simp only [go_sem, Nat.reduceEqDiff, Nat.reduceLT, Nat.reduceAdd, Nat.reduceLeDiff, Nat.reduceMul, Nat.reduceSub, Int.reduceLE, Int.reduceLT, Int.reduceToNat, Int.reducePow, Int.reduceEq, k19, hsn]
      · simp only [go_sem, Nat.reduceEqDiff, Nat.reduceLT, Nat.reduceAdd, Nat.reduceLeDiff, Nat.reduceMul, Nat.reduceSub, Int.reduceLE, Int.reduceLT, Int.reduceToNat, Int.reducePow, Int.reduceEq]
end Go.Ax

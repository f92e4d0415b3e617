import Derived.Test.YthbojmoiimknhaaStN
set_option linter.unusedSimpArgs false
set_option linter.unusedVariables false
namespace Go.Ax
open Go.Proofs

theorem wantOf_all (ls : List LFrm) : wantOf ls 0 = ((ls.map LFrm.f).reverse).flatMap seenF := by
  rw [wantOf, List.drop_zero, ← List.map_reverse, List.flatMap_map]
  

/-- A map. -/
theorem act_map {Ret : Fr → AMem → Prop} {k0 : List It} {most : Int} {i x : Nat} {ls : List LFrm} {k lk : Option Nat} {acts : List V} {n : Nat} {a : ActIn} {F : Fr} {M : AMem} (hR : ActR most i ls k lk acts n F M) (hX : ActX a x i ls k lk F M) (hmost : most ≤ 16384) (hls : ls.length ≤ 100)
    (hk : ∀ F' M' ls' k' lk', ActR most i ls' k' lk' acts n F' M' → ls'.length ≤ ls.length + 1 → W Try.prog 301 Ret k0 F' M') :
    W Try.prog 301 Ret (.code (part [1,1,1,1,1,1,0,1,1,1,1,1,0,1,1,0,1,1,1,1,1,1] body3) :: k0) F M := by
  have ⟨hst, hlen, f0, f5, f7, f8, f51, f52, f53⟩ := hR
  obtain ⟨hil, hkl, hlkl, hlsl⟩ := hst.lts
  obtain ⟨f10, hx, hxi, hxk, hxlk, hxls⟩ := hX
  have hxl := lt_of_atS hx
  simp only [ActIn.cells] at hx
  obtain ⟨nn, hnn⟩ : ∃ nn, nn = IntKind.i64.wrap ((IntKind.u64.wrap a.n).tmod 1000) := ⟨_, rfl⟩
  (repeat (first | refine W_seq ?_ | refine W_block ?_ | refine W_blk ?_ | refine W_skip ?_))
  (refine W_region [] (by rfl) fun K hK => ?_; simp only [go_sem, Nat.reduceEqDiff, Nat.reduceLT, Nat.reduceAdd, Nat.reduceLeDiff, Nat.reduceMul, Nat.reduceSub, Int.reduceLE, Int.reduceLT, Int.reduceToNat, Int.reducePow, Int.reduceEq, f10, hx, ne_eq, not_false_eq_true, Nat.zero_add, ← hnn])
  (refine WRun.done _ _ (hK _ _ ?_); clear hK)
  (repeat (first | refine W_seq ?_ | refine W_block ?_ | refine W_blk ?_ | refine W_skip ?_))
  (refine W_region [] (by rfl) fun K hK => ?_; simp only [go_sem, Nat.reduceEqDiff, Nat.reduceLT, Nat.reduceAdd, Nat.reduceLeDiff, Nat.reduceMul, Nat.reduceSub, Int.reduceLE, Int.reduceLT, Int.reduceToNat, Int.reducePow, Int.reduceEq])
  (refine WRun.done _ _ (hK _ _ ?_); clear hK)
  -- the two cells
  have hM2l : (M ++ [AObj.cells [V.int nn]] ++ [AObj.cells [V.list .full []]]).length = M.length + 2 := by simp
  have h17 : (M ++ [AObj.cells [V.int nn]] ++ [AObj.cells [V.list .full []]])[M.length]? = some (.cells [V.int nn]) := by
    rw [List.getElem?_append_left (by simp), List.getElem?_append_right (Nat.le_refl _)]; simp
  have h18 : (M ++ [AObj.cells [V.int nn]] ++ [AObj.cells [V.list .full []]])[M.length + 1]? = some (.cells [V.list .full []]) := by
    rw [List.getElem?_append_right (by simp)]; simp
  have hk1 : ∀ j, j < M.length → (M ++ [AObj.cells [V.int nn]] ++ [AObj.cells [V.list .full []]])[j]? = M[j]? := fun j hj => by
    rw [List.getElem?_append_left (by simp; omega), List.getElem?_append_left hj]
  generalize M ++ [AObj.cells [V.int nn]] ++ [AObj.cells [V.list .full []]] = M2 at hM2l h17 h18 hk1 ⊢
  have st2 : ActSt M2 i most ls k lk := hst.same (hk1 _ hil) (fun k' e => hk1 _ (hkl k' e)) (fun k' e => hk1 _ (hlkl k' e)) (fun y hy => hk1 _ (hlsl y hy))
  have hfs : ∀ f ∈ ls.map LFrm.f, f.ok := by
    intro f hf
    obtain ⟨y, hy, rfl⟩ := List.mem_map.1 hf
    exact hst.ok y hy
  have hown : ∀ j, j < M.length → ¬ (seenC (M.length + 1) M.length nn).Own .full j := by
    rintro j hj (h | h | h)
    · omega
    · omega
    · cases h
  (repeat (first | refine W_seq ?_ | refine W_block ?_ | refine W_blk ?_ | refine W_skip ?_))
  (refine W_region [] (by rfl) fun K hK => ?_; simp only [go_sem, Nat.reduceEqDiff, Nat.reduceLT, Nat.reduceAdd, Nat.reduceLeDiff, Nat.reduceMul, Nat.reduceSub, Int.reduceLE, Int.reduceLT, Int.reduceToNat, Int.reducePow, Int.reduceEq, f5])
  refine WRun.call _ _ _ _ _ _ _ (map_ok (seenC (M.length + 1) M.length nn) M2 i most k (ls.map LFrm.f) ([] : List Int) .full st2.stack hfs (by omega) ⟨h18, h17, by omega, .inl rfl⟩ (hown i hil) (fun k' e => hown k' (hkl k' e)) (by show 0 + _ ≤ _; omega)) ?_
  rintro r M3 ⟨hst3, g1, hmg⟩
  have hrun : runFs (seenC (M.length + 1) M.length nn).stp [] (ls.map LFrm.f).reverse = ((ls.map LFrm.f).reverse.map (updF nn), [] ++ (ls.map LFrm.f).reverse.flatMap seenF) := runFs_S nn _ _
  rw [hrun] at hst3 hmg
  simp only [List.nil_append] at hmg
  have hst3 : StackAt M3 i most (encL ((ls.map LFrm.f).map (updF nn))) k := by
    have e : ((ls.map LFrm.f).reverse.map (updF nn)).reverse = (ls.map LFrm.f).map (updF nn) := by rw [← List.map_reverse, List.reverse_reverse]
    rw [← e]; exact hst3
  obtain ⟨s18, s17, _, _⟩ := hmg.inv
  rw [← wantOf_all] at s18
  have hlen3 := hmg.len
  have hk3 : ∀ j, j < M.length → k ≠ some j → M3[j]? = M[j]? := fun j hj hne => (hmg.keep j (by omega) hne (hown j hj)).trans (hk1 j hj)
  have hl3 : ListAt M3 ls lk := hst.list.same (fun q e => hk3 q (hlkl q e) (hst.a1 q e).2) (fun y hy => hk3 _ (hlsl y hy) (hst.a2 y hy).2)
  have hwl := wantOf_len ls 0
  have henc : (encL ((ls.map (LFrm.upd nn)).map LFrm.f)) = encL ((ls.map LFrm.f).map (updF nn)) := by
    rw [List.map_map, List.map_map]; rfl
  have hencl : (encL ((ls.map (LFrm.upd nn)).map LFrm.f)).length = (encL (ls.map LFrm.f)).length := by rw [henc, encL_upd]
  simp only [go_sem, Nat.reduceEqDiff, Nat.reduceLT, Nat.reduceAdd, Nat.reduceLeDiff, Nat.reduceMul, Nat.reduceSub, Int.reduceLE, Int.reduceLT, Int.reduceToNat, Int.reducePow, Int.reduceEq]
  (refine WRun.done _ _ (hK _ _ ?_); clear hK)
  -- the end, once the list is changed
  have fin : ∀ (F4 : Fr) (M4 : AMem) (tw : Tag), look F4 0 = look F 0 → look F4 5 = look F 5 → look F4 7 = look F 7 → look F4 8 = look F 8 → look F4 51 = look F 51 → look F4 52 = look F 52 → look F4 53 = look F 53 → look F4 18 = .ptr (M.length + 1) 0 → look F4 19 = .list tw ((wantOf ls 0).map V.int) →
      ListAt M4 (ls.map (LFrm.upd nn)) lk → (∀ j, j < M3.length → (∀ y ∈ ls, y.id ≠ j) → lk ≠ some j → M4[j]? = M3[j]?) → W Try.prog 301 Ret (.code (part [1,1,1,1,1,1,0,1,1,1,1,1,0,1,1,0,1,1,1,1,1,1,1,1,1,1] body3) :: k0) F4 M4 := by
    intro F4 M4 tw e0 e5 e7 e8 e51 e52 e53 e18 e19 hl4 hk4
    have h18l := lt_of_atS s18
    have s18' : M4[M.length + 1]? = some (.cells [.list g1 ((wantOf ls 0).map V.int)]) := by
      rw [hk4 _ h18l (fun y hy e => by have := hlsl y hy; omega) (fun e => by have := hlkl _ e; omega)]; exact s18
    (repeat (first | refine W_seq ?_ | refine W_block ?_ | refine W_blk ?_ | refine W_skip ?_))
    (refine W_region [] (by rfl) fun K hK => ?_; simp only [go_sem, Nat.reduceEqDiff, Nat.reduceLT, Nat.reduceAdd, Nat.reduceLeDiff, Nat.reduceMul, Nat.reduceSub, Int.reduceLE, Int.reduceLT, Int.reduceToNat, Int.reducePow, Int.reduceEq, e18, e19, s18', Nat.zero_add])
    refine WRun.call _ _ _ _ _ _ _ (same_eq M4 0 0 0 g1 (wantOf ls 0) (.list tw ((wantOf ls 0).map V.int)) (.inl ⟨tw, rfl⟩) (by omega)) ?_
    rintro r X ⟨rfl, rfl⟩
    simp only [go_sem, Nat.reduceEqDiff, Nat.reduceLT, Nat.reduceAdd, Nat.reduceLeDiff, Nat.reduceMul, Nat.reduceSub, Int.reduceLE, Int.reduceLT, Int.reduceToNat, Int.reducePow, Int.reduceEq]
    (refine WRun.done _ _ (hK _ _ ?_); clear hK)
    (repeat (first | refine W_seq ?_ | refine W_block ?_ | refine W_blk ?_ | refine W_skip ?_))
    refine W_cond_false (by simp only [go_sem, Nat.reduceEqDiff, Nat.reduceLT, Nat.reduceAdd, Nat.reduceLeDiff, Nat.reduceMul, Nat.reduceSub, Int.reduceLE, Int.reduceLT, Int.reduceToNat, Int.reducePow, Int.reduceEq]) ?_
    refine W_skip ?_
    have hstX : StackAt X i most (encL ((ls.map (LFrm.upd nn)).map LFrm.f)) k := by
      rw [henc]
      refine stack_same hst3 (hk4 _ (by omega) (fun y hy => (hst.a2 y hy).1) (fun e => (hst.a1 i e).1 rfl)) (fun q e => hk4 _ (by have := hkl q e; omega) (fun y hy e2 => (hst.a2 y hy).2 (by rw [e, e2])) (fun e2 => (hst.a1 q e2).2 e))
    refine hk _ X (ls.map (LFrm.upd nn)) k lk (hR.next ⟨hstX, hl4, ?_, hst.a1, ?_⟩ (by rw [hencl]; exact hlen) ?_ ?_ ?_ ?_ ?_ ?_ ?_) (by simp)
    · intro z hz
      obtain ⟨y, hy, rfl⟩ := List.mem_map.1 hz
      exact updF_ok (hst.ok y hy)
    · intro z hz
      obtain ⟨y, hy, rfl⟩ := List.mem_map.1 hz
      exact hst.a2 y hy
    · simp only [go_sem, Nat.reduceEqDiff, Nat.reduceLT, Nat.reduceAdd, Nat.reduceLeDiff, Nat.reduceMul, Nat.reduceSub, Int.reduceLE, Int.reduceLT, Int.reduceToNat, Int.reducePow, Int.reduceEq, e0]
    · simp only [go_sem, Nat.reduceEqDiff, Nat.reduceLT, Nat.reduceAdd, Nat.reduceLeDiff, Nat.reduceMul, Nat.reduceSub, Int.reduceLE, Int.reduceLT, Int.reduceToNat, Int.reducePow, Int.reduceEq, e5]
    · simp only [go_sem, Nat.reduceEqDiff, Nat.reduceLT, Nat.reduceAdd, Nat.reduceLeDiff, Nat.reduceMul, Nat.reduceSub, Int.reduceLE, Int.reduceLT, Int.reduceToNat, Int.reducePow, Int.reduceEq, e7, f7, List.length_map]
    · simp only [go_sem, Nat.reduceEqDiff, Nat.reduceLT, Nat.reduceAdd, Nat.reduceLeDiff, Nat.reduceMul, Nat.reduceSub, Int.reduceLE, Int.reduceLT, Int.reduceToNat, Int.reducePow, Int.reduceEq, e8, f8, hencl]
    · simp only [go_sem, Nat.reduceEqDiff, Nat.reduceLT, Nat.reduceAdd, Nat.reduceLeDiff, Nat.reduceMul, Nat.reduceSub, Int.reduceLE, Int.reduceLT, Int.reduceToNat, Int.reducePow, Int.reduceEq, e51]
    · simp only [go_sem, Nat.reduceEqDiff, Nat.reduceLT, Nat.reduceAdd, Nat.reduceLeDiff, Nat.reduceMul, Nat.reduceSub, Int.reduceLE, Int.reduceLT, Int.reduceToNat, Int.reducePow, Int.reduceEq, e52]
    · simp only [go_sem, Nat.reduceEqDiff, Nat.reduceLT, Nat.reduceAdd, Nat.reduceLeDiff, Nat.reduceMul, Nat.reduceSub, Int.reduceLE, Int.reduceLT, Int.reduceToNat, Int.reducePow, Int.reduceEq, e53]
  cases lk with
  | none =>
    have h0 := hst.list.fnone rfl
    subst h0
    have hw0 : IntKind.i64.wrap (0 - 1) = -1 := rfl
    simp only [listV] at f7
    (repeat (first | refine W_seq ?_ | refine W_block ?_ | refine W_blk ?_ | refine W_skip ?_))
    (refine W_region [] (by rfl) fun K hK => ?_; simp only [go_sem, Nat.reduceEqDiff, Nat.reduceLT, Nat.reduceAdd, Nat.reduceLeDiff, Nat.reduceMul, Nat.reduceSub, Int.reduceLE, Int.reduceLT, Int.reduceToNat, Int.reducePow, Int.reduceEq, f7, hw0, List.length_nil])
    (refine WRun.done _ _ (hK _ _ ?_); clear hK)
    (repeat (first | refine W_seq ?_ | refine W_block ?_ | refine W_blk ?_ | refine W_skip ?_))
    refine W_loop (α := Nat) (fun _ F' M' => M' = M3 ∧ (∀ t, t < 68 ∨ 72 < t → t ≠ 20 → t ≠ 18 → t ≠ 19 → t ≠ 17 → t ≠ 10 → look F' t = look F' t) ∧ look F' 20 = V.int (-1) ∧ look F' 0 = look F 0 ∧ look F' 5 = look F 5 ∧ look F' 7 = look F 7 ∧ look F' 8 = look F 8 ∧ look F' 51 = look F 51 ∧ look F' 52 = look F 52 ∧ look F' 53 = look F 53 ∧ look F' 18 = .ptr (M.length + 1) 0 ∧ look F' 19 = .list .full [])
      (fun _ => 0) 0 ⟨rfl, fun _ _ _ _ _ _ _ => rfl, ?_, ?_, ?_, ?_, ?_, ?_, ?_, ?_, ?_, ?_⟩ ?_
    · simp only [go_sem, Nat.reduceEqDiff, Nat.reduceLT, Nat.reduceAdd, Nat.reduceLeDiff, Nat.reduceMul, Nat.reduceSub, Int.reduceLE, Int.reduceLT, Int.reduceToNat, Int.reducePow, Int.reduceEq]
    · simp only [go_sem, Nat.reduceEqDiff, Nat.reduceLT, Nat.reduceAdd, Nat.reduceLeDiff, Nat.reduceMul, Nat.reduceSub, Int.reduceLE, Int.reduceLT, Int.reduceToNat, Int.reducePow, Int.reduceEq]
    · simp only [go_sem, Nat.reduceEqDiff, Nat.reduceLT, Nat.reduceAdd, Nat.reduceLeDiff, Nat.reduceMul, Nat.reduceSub, Int.reduceLE, Int.reduceLT, Int.reduceToNat, Int.reducePow, Int.reduceEq]
    · simp only [go_sem, Nat.reduceEqDiff, Nat.reduceLT, Nat.reduceAdd, Nat.reduceLeDiff, Nat.reduceMul, Nat.reduceSub, Int.reduceLE, Int.reduceLT, Int.reduceToNat, Int.reducePow, Int.reduceEq]
    · simp only [go_sem, Nat.reduceEqDiff, Nat.reduceLT, Nat.reduceAdd, Nat.reduceLeDiff, Nat.reduceMul, Nat.reduceSub, Int.reduceLE, Int.reduceLT, Int.reduceToNat, Int.reducePow, Int.reduceEq]
    · simp only [go_sem, Nat.reduceEqDiff, Nat.reduceLT, Nat.reduceAdd, Nat.reduceLeDiff, Nat.reduceMul, Nat.reduceSub, Int.reduceLE, Int.reduceLT, Int.reduceToNat, Int.reducePow, Int.reduceEq]
    · simp only [go_sem, Nat.reduceEqDiff, Nat.reduceLT, Nat.reduceAdd, Nat.reduceLeDiff, Nat.reduceMul, Nat.reduceSub, Int.reduceLE, Int.reduceLT, Int.reduceToNat, Int.reducePow, Int.reduceEq]
    · simp only [go_sem, Nat.reduceEqDiff, Nat.reduceLT, Nat.reduceAdd, Nat.reduceLeDiff, Nat.reduceMul, Nat.reduceSub, Int.reduceLE, Int.reduceLT, Int.reduceToNat, Int.reducePow, Int.reduceEq]
    · simp only [go_sem, Nat.reduceEqDiff, Nat.reduceLT, Nat.reduceAdd, Nat.reduceLeDiff, Nat.reduceMul, Nat.reduceSub, Int.reduceLE, Int.reduceLT, Int.reduceToNat, Int.reducePow, Int.reduceEq, hM2l]
    · simp only [go_sem, Nat.reduceEqDiff, Nat.reduceLT, Nat.reduceAdd, Nat.reduceLeDiff, Nat.reduceMul, Nat.reduceSub, Int.reduceLE, Int.reduceLT, Int.reduceToNat, Int.reducePow, Int.reduceEq]
    rintro _ F4 M4 ⟨rfl, _, e20, e0, e5, e7, e8, e51, e52, e53, e18, e19⟩
    (repeat (first | refine W_seq ?_ | refine W_block ?_ | refine W_blk ?_ | refine W_skip ?_))
    (refine W_region [] (by rfl) fun K hK => ?_; simp only [go_sem, Nat.reduceEqDiff, Nat.reduceLT, Nat.reduceAdd, Nat.reduceLeDiff, Nat.reduceMul, Nat.reduceSub, Int.reduceLE, Int.reduceLT, Int.reduceToNat, Int.reducePow, Int.reduceEq, e20])
    (refine WRun.done _ _ (hK _ _ ?_); clear hK)
    (repeat (first | refine W_seq ?_ | refine W_block ?_ | refine W_blk ?_ | refine W_skip ?_))
    refine W_cond_false (by simp only [go_sem, Nat.reduceEqDiff, Nat.reduceLT, Nat.reduceAdd, Nat.reduceLeDiff, Nat.reduceMul, Nat.reduceSub, Int.reduceLE, Int.reduceLT, Int.reduceToNat, Int.reducePow, Int.reduceEq]) ?_
    refine W_exit (Qof_code (Qof_stop (Qof_blk_same ?_)))
    refine fin _ M4 .full ?_ ?_ ?_ ?_ ?_ ?_ ?_ ?_ ?_ hl3 (fun _ _ _ _ => rfl)
    · simp only [go_sem, Nat.reduceEqDiff, Nat.reduceLT, Nat.reduceAdd, Nat.reduceLeDiff, Nat.reduceMul, Nat.reduceSub, Int.reduceLE, Int.reduceLT, Int.reduceToNat, Int.reducePow, Int.reduceEq, e0]
    · simp only [go_sem, Nat.reduceEqDiff, Nat.reduceLT, Nat.reduceAdd, Nat.reduceLeDiff, Nat.reduceMul, Nat.reduceSub, Int.reduceLE, Int.reduceLT, Int.reduceToNat, Int.reducePow, Int.reduceEq, e5]
    · simp only [go_sem, Nat.reduceEqDiff, Nat.reduceLT, Nat.reduceAdd, Nat.reduceLeDiff, Nat.reduceMul, Nat.reduceSub, Int.reduceLE, Int.reduceLT, Int.reduceToNat, Int.reducePow, Int.reduceEq, e7]
    · simp only [go_sem, Nat.reduceEqDiff, Nat.reduceLT, Nat.reduceAdd, Nat.reduceLeDiff, Nat.reduceMul, Nat.reduceSub, Int.reduceLE, Int.reduceLT, Int.reduceToNat, Int.reducePow, Int.reduceEq, e8]
    · simp only [go_sem, Nat.reduceEqDiff, Nat.reduceLT, Nat.reduceAdd, Nat.reduceLeDiff, Nat.reduceMul, Nat.reduceSub, Int.reduceLE, Int.reduceLT, Int.reduceToNat, Int.reducePow, Int.reduceEq, e51]
    · simp only [go_sem, Nat.reduceEqDiff, Nat.reduceLT, Nat.reduceAdd, Nat.reduceLeDiff, Nat.reduceMul, Nat.reduceSub, Int.reduceLE, Int.reduceLT, Int.reduceToNat, Int.reducePow, Int.reduceEq, e52]
    · simp only [go_sem, Nat.reduceEqDiff, Nat.reduceLT, Nat.reduceAdd, Nat.reduceLeDiff, Nat.reduceMul, Nat.reduceSub, Int.reduceLE, Int.reduceLT, Int.reduceToNat, Int.reducePow, Int.reduceEq, e53]
    · simp only [go_sem, Nat.reduceEqDiff, Nat.reduceLT, Nat.reduceAdd, Nat.reduceLeDiff, Nat.reduceMul, Nat.reduceSub, Int.reduceLE, Int.reduceLT, Int.reduceToNat, Int.reducePow, Int.reduceEq, e18]
    · simp only [go_sem, Nat.reduceEqDiff, Nat.reduceLT, Nat.reduceAdd, Nat.reduceLeDiff, Nat.reduceMul, Nat.reduceSub, Int.reduceLE, Int.reduceLT, Int.reduceToNat, Int.reducePow, Int.reduceEq, e19]
      rfl
  | some kk =>
    have hw1 : IntKind.i64.wrap ((ls.length : Int) - 1) = ((ls.length : Int) - 1) := wrapI _ (by omega) (by omega)
    have f7' := f7
    simp only [listV] at f7'
    have hkkl := hlkl kk rfl
    refine W_seq ?_
    refine W_seq ?_
    (refine W_region [] (by rfl) fun K hK => ?_; simp only [go_sem, Nat.reduceEqDiff, Nat.reduceLT, Nat.reduceAdd, Nat.reduceLeDiff, Nat.reduceMul, Nat.reduceSub, Int.reduceLE, Int.reduceLT, Int.reduceToNat, Int.reducePow, Int.reduceEq, f7', hw1])
    (refine WRun.done _ _ (hK _ _ ?_); clear hK)
    refine map_rows (c17 := M.length) (nn := nn) hl3 s17 (by omega) (fun y hy e => by have := hlsl y hy; omega) hls (fun y hy => by have := hlsl y hy; omega) (fun y hy => hst.ok y hy) (by omega) _ ?_ ?_ ?_ ?_ ?_
    · simp only [go_sem, Nat.reduceEqDiff, Nat.reduceLT, Nat.reduceAdd, Nat.reduceLeDiff, Nat.reduceMul, Nat.reduceSub, Int.reduceLE, Int.reduceLT, Int.reduceToNat, Int.reducePow, Int.reduceEq, f7']
    · simp only [go_sem, Nat.reduceEqDiff, Nat.reduceLT, Nat.reduceAdd, Nat.reduceLeDiff, Nat.reduceMul, Nat.reduceSub, Int.reduceLE, Int.reduceLT, Int.reduceToNat, Int.reducePow, Int.reduceEq]
    · simp only [go_sem, Nat.reduceEqDiff, Nat.reduceLT, Nat.reduceAdd, Nat.reduceLeDiff, Nat.reduceMul, Nat.reduceSub, Int.reduceLE, Int.reduceLT, Int.reduceToNat, Int.reducePow, Int.reduceEq]
    · simp only [go_sem, Nat.reduceEqDiff, Nat.reduceLT, Nat.reduceAdd, Nat.reduceLeDiff, Nat.reduceMul, Nat.reduceSub, Int.reduceLE, Int.reduceLT, Int.reduceToNat, Int.reducePow, Int.reduceEq]
    intro F4 M4 tw hF4 e19 hl4 hk4 hml4
    have hk4' : ∀ j, j < M3.length → (∀ y ∈ ls, y.id ≠ j) → (some kk : Option Nat) ≠ some j → M4[j]? = M3[j]? := fun j h1 h2 h3 => hk4 j h1 h2 (fun e => h3 (by rw [e]))
    refine fin F4 M4 tw ?_ ?_ ?_ ?_ ?_ ?_ ?_ ?_ e19 hl4 hk4'
    · rw [hF4 0 (by decide) (by decide) (by decide) (by decide) (by decide)]; simp only [go_sem, Nat.reduceEqDiff, Nat.reduceLT, Nat.reduceAdd, Nat.reduceLeDiff, Nat.reduceMul, Nat.reduceSub, Int.reduceLE, Int.reduceLT, Int.reduceToNat, Int.reducePow, Int.reduceEq]
    · rw [hF4 5 (by decide) (by decide) (by decide) (by decide) (by decide)]; simp only [go_sem, Nat.reduceEqDiff, Nat.reduceLT, Nat.reduceAdd, Nat.reduceLeDiff, Nat.reduceMul, Nat.reduceSub, Int.reduceLE, Int.reduceLT, Int.reduceToNat, Int.reducePow, Int.reduceEq]
    · rw [hF4 7 (by decide) (by decide) (by decide) (by decide) (by decide)]; simp only [go_sem, Nat.reduceEqDiff, Nat.reduceLT, Nat.reduceAdd, Nat.reduceLeDiff, Nat.reduceMul, Nat.reduceSub, Int.reduceLE, Int.reduceLT, Int.reduceToNat, Int.reducePow, Int.reduceEq]
    · rw [hF4 8 (by decide) (by decide) (by decide) (by decide) (by decide)]; simp only [go_sem, Nat.reduceEqDiff, Nat.reduceLT, Nat.reduceAdd, Nat.reduceLeDiff, Nat.reduceMul, Nat.reduceSub, Int.reduceLE, Int.reduceLT, Int.reduceToNat, Int.reducePow, Int.reduceEq]
    · rw [hF4 51 (by decide) (by decide) (by decide) (by decide) (by decide)]; simp only [go_sem, Nat.reduceEqDiff, Nat.reduceLT, Nat.reduceAdd, Nat.reduceLeDiff, Nat.reduceMul, Nat.reduceSub, Int.reduceLE, Int.reduceLT, Int.reduceToNat, Int.reducePow, Int.reduceEq]
    · rw [hF4 52 (by decide) (by decide) (by decide) (by decide) (by decide)]; simp only [go_sem, Nat.reduceEqDiff, Nat.reduceLT, Nat.reduceAdd, Nat.reduceLeDiff, Nat.reduceMul, Nat.reduceSub, Int.reduceLE, Int.reduceLT, Int.reduceToNat, Int.reducePow, Int.reduceEq]
    · rw [hF4 53 (by decide) (by decide) (by decide) (by decide) (by decide)]; simp only [go_sem, Nat.reduceEqDiff, Nat.reduceLT, Nat.reduceAdd, Nat.reduceLeDiff, Nat.reduceMul, Nat.reduceSub, Int.reduceLE, Int.reduceLT, Int.reduceToNat, Int.reducePow, Int.reduceEq]
    · rw [hF4 18 (by decide) (by decide) (by decide) (by decide) (by decide)]; simp only [go_sem, Nat.reduceEqDiff, Nat.reduceLT, Nat.reduceAdd, Nat.reduceLeDiff, Nat.reduceMul, Nat.reduceSub, Int.reduceLE, Int.reduceLT, Int.reduceToNat, Int.reducePow, Int.reduceEq]
end Go.Ax

import Derived.Test.YthbojmoiimknhaaStJ
set_option linter.unusedSimpArgs false
set_option linter.unusedVariables false
namespace Go.Ax
open Go.Proofs

theorem flat_len (ls : List LFrm) : (ls.flatMap LFrm.cells).length = 4 * ls.length := by
  induction ls with
  | nil => rfl
  | cons b ls ih => rw [List.flatMap_cons, List.length_append, ih]; simp [LFrm.cells]; omega

/-- The cells of one frame of the list. -/
theorem flat_at : ∀ {ls : List LFrm} {q : Nat} {y : LFrm}, ls[q]? = some y → ((ls.flatMap LFrm.cells).drop (4 * q)).take 4 = y.cells
  | [], q, y, h => by simp at h
  | b :: ls, 0, y, h => by
    simp at h; subst h
    simp [LFrm.cells]
  | b :: ls, q + 1, y, h => by
    simp at h
    have := flat_at h
    rw [List.flatMap_cons, show 4 * (q + 1) = 4 + 4 * q by omega, ← List.drop_drop]
    have e : (b.cells ++ ls.flatMap LFrm.cells).drop 4 = ls.flatMap LFrm.cells := by simp [LFrm.cells]
    rw [e]; exact this

theorem ListAt.cell {M : AMem} {ls : List LFrm} {kk : Nat} (h : ListAt M ls (some kk)) {q : Nat} {y : LFrm} (hq : ls[q]? = some y) : ∃ cs, M[kk]? = some (.cells cs) ∧ 4 * q + 4 ≤ cs.length ∧ (cs.drop (4 * q)).take 4 = y.cells ∧ 4 * ls.length ≤ cs.length := by
  obtain ⟨cs, h1, h2⟩ := h.fsome kk rfl
  have hql := (List.getElem?_eq_some_iff.1 hq).1
  have hl := congrArg List.length h2
  rw [List.length_take, flat_len] at hl
  refine ⟨cs, h1, by omega, ?_, by omega⟩
  rw [← flat_at hq, ← h2, List.drop_take, List.take_take]
  congr 1
  omega

theorem ListAt.pop {M : AMem} {ls : List LFrm} {y : LFrm} {lk : Option Nat} (h : ListAt M (ls ++ [y]) lk) : ListAt M ls lk := by
  refine ⟨fun e => ?_, fun k' e => ?_, fun x hx => h.each x (by simp [hx]), ?_, fun k' x e hx => h.sep k' x e (by simp [hx])⟩
  · have := h.fnone e
    simp at this
  · obtain ⟨cs, h1, h2⟩ := h.fsome k' e
    refine ⟨cs, h1, ?_⟩
    have := congrArg (fun l : List V => l.take (4 * ls.length)) h2
    simp only [List.take_take] at this
    rw [Nat.min_eq_left (by simp; omega)] at this
    rw [this, List.flatMap_append, List.take_append_of_le_length (by rw [flat_len]; exact Nat.le_refl _), List.take_of_length_le (by rw [flat_len]; exact Nat.le_refl _)]
  · have := h.ids
    rw [List.map_append, List.nodup_append] at this
    exact this.1

theorem ListAt.ints {M : AMem} {ls : List LFrm} {lk : Option Nat} (h : ListAt M ls lk) {y : LFrm} (hy : y ∈ ls) : Ints M (.arr y.id 0 y.f.l.length 1) y.f.l := by
  obtain ⟨cs, h1, h2⟩ := h.each y hy
  exact .inr ⟨y.id, cs, rfl, h1, h2⟩

/-- A pop. -/
theorem act_pop {Ret : Fr → AMem → Prop} {k0 : List It} {most : Int} {i : Nat} {ls : List LFrm} {k lk : Option Nat} {acts : List V} {n : Nat} {F : Fr} {M : AMem} (hR : ActR most i ls k lk acts n F M) (hmost : most ≤ 16384) (hls : ls.length ≤ 100)
    (hk : ∀ F' M' ls' k' lk', ActR most i ls' k' lk' acts n F' M' → ls'.length ≤ ls.length + 1 → W Try.prog 301 Ret k0 F' M')
    (hk1 : ∀ F' M', ActR most i ls k lk acts n F' M' → Qof Try.prog 301 Ret k0 (.exit 1) F' M') :
    W Try.prog 301 Ret (.code (part [1,1,1,1,1,1,0,1,1,1,1,1,0,1,1,0,1,1,1,1,1,0] body3) :: k0) F M := by
  rcases List.eq_nil_or_concat ls with rfl | ⟨ls0, y, hcat⟩
  · have ⟨hst, hlen, f0, f5, f7, f8, f51, f52, f53⟩ := hR
    obtain ⟨hil, hkl, hlkl, hlsl⟩ := hst.lts
    have hz : (((0 : Nat) : Int) = 0) = True := eq_true rfl
    have hl7 : lenA Try.prog 28 M (listV lk 0) = some (V.int 0) := by cases lk <;> rfl
    (repeat (first | refine W_seq ?_ | refine W_block ?_ | refine W_blk ?_ | refine W_skip ?_))
    (refine W_region [] (by rfl) fun K hK => ?_; simp only [go_sem, Nat.reduceEqDiff, Nat.reduceLT, Nat.reduceAdd, Nat.reduceLeDiff, Nat.reduceMul, Nat.reduceSub, Int.reduceLE, Int.reduceLT, Int.reduceToNat, Int.reducePow, Int.reduceEq, f5])
    refine WRun.call _ _ _ _ _ _ _ (pop_empty M i most k hst.stack) ?_
    rintro r M1 ⟨rfl, hKp⟩
    simp only [go_sem, Nat.reduceEqDiff, Nat.reduceLT, Nat.reduceAdd, Nat.reduceLeDiff, Nat.reduceMul, Nat.reduceSub, Int.reduceLE, Int.reduceLT, Int.reduceToNat, Int.reducePow, Int.reduceEq, at_left, set_left]
    (refine WRun.done _ _ (hK _ _ ?_); clear hK)
    have hk2 : ∀ j, j < M.length → (M1 ++ [AObj.cells [V.prim (Value.int IntKind.i64 0), V.prim (Value.int IntKind.i64 0), V.prim (Value.int IntKind.i64 0), V.list Tag.full []]])[j]? = M[j]? := fun j hj => by
      rw [List.getElem?_append_left (by have := hKp.1; omega)]; exact hKp.2 j hj
    have hc : (M1 ++ [AObj.cells [V.prim (Value.int IntKind.i64 0), V.prim (Value.int IntKind.i64 0), V.prim (Value.int IntKind.i64 0), V.list Tag.full []]])[M1.length]? = some (.cells [V.int 0, V.int 0, V.int 0, V.list .full []]) := by simp
    have st2 := hst.same (M' := M1 ++ [AObj.cells [V.prim (Value.int IntKind.i64 0), V.prim (Value.int IntKind.i64 0), V.prim (Value.int IntKind.i64 0), V.list Tag.full []]]) (hk2 _ hil) (fun q e => hk2 _ (hkl q e)) (fun q e => hk2 _ (hlkl q e)) (fun y hy => hk2 _ (hlsl y hy))
    generalize M1 ++ [AObj.cells [V.prim (Value.int IntKind.i64 0), V.prim (Value.int IntKind.i64 0), V.prim (Value.int IntKind.i64 0), V.list Tag.full []]] = M2 at hc st2 ⊢
    have f7' := f7
    cases lk with
    | none =>
      simp only [listV] at f7'
      (repeat (first | refine W_seq ?_ | refine W_block ?_ | refine W_blk ?_ | refine W_skip ?_))
      (refine W_region [] (by rfl) fun K hK => ?_; simp only [go_sem, Nat.reduceEqDiff, Nat.reduceLT, Nat.reduceAdd, Nat.reduceLeDiff, Nat.reduceMul, Nat.reduceSub, Int.reduceLE, Int.reduceLT, Int.reduceToNat, Int.reducePow, Int.reduceEq, f7'])
      (refine WRun.done _ _ (hK _ _ ?_); clear hK)
      (repeat (first | refine W_seq ?_ | refine W_block ?_ | refine W_blk ?_ | refine W_skip ?_))
      refine W_cond_true (by simp only [go_sem, Nat.reduceEqDiff, Nat.reduceLT, Nat.reduceAdd, Nat.reduceLeDiff, Nat.reduceMul, Nat.reduceSub, Int.reduceLE, Int.reduceLT, Int.reduceToNat, Int.reducePow, Int.reduceEq]) ?_
      (repeat (first | refine W_seq ?_ | refine W_block ?_ | refine W_blk ?_ | refine W_skip ?_))
      (refine W_region [] (by rfl) fun K hK => ?_; simp only [go_sem, Nat.reduceEqDiff, Nat.reduceLT, Nat.reduceAdd, Nat.reduceLeDiff, Nat.reduceMul, Nat.reduceSub, Int.reduceLE, Int.reduceLT, Int.reduceToNat, Int.reducePow, Int.reduceEq, hc, Nat.zero_add])
      (refine WRun.done _ _ (hK _ _ ?_); clear hK)
      (repeat (first | refine W_seq ?_ | refine W_block ?_ | refine W_blk ?_ | refine W_skip ?_))
      refine W_cond_false (by simp only [go_sem, Nat.reduceEqDiff, Nat.reduceLT, Nat.reduceAdd, Nat.reduceLeDiff, Nat.reduceMul, Nat.reduceSub, Int.reduceLE, Int.reduceLT, Int.reduceToNat, Int.reducePow, Int.reduceEq]) ?_
      (repeat (first | refine W_seq ?_ | refine W_block ?_ | refine W_blk ?_ | refine W_skip ?_))
      refine W_exit (Qof_code (hk1 _ _ (hR.next st2 hlen ?_ ?_ ?_ ?_ ?_ ?_ ?_)))
      · simp only [go_sem, Nat.reduceEqDiff, Nat.reduceLT, Nat.reduceAdd, Nat.reduceLeDiff, Nat.reduceMul, Nat.reduceSub, Int.reduceLE, Int.reduceLT, Int.reduceToNat, Int.reducePow, Int.reduceEq]
      · simp only [go_sem, Nat.reduceEqDiff, Nat.reduceLT, Nat.reduceAdd, Nat.reduceLeDiff, Nat.reduceMul, Nat.reduceSub, Int.reduceLE, Int.reduceLT, Int.reduceToNat, Int.reducePow, Int.reduceEq]
      · simp only [go_sem, Nat.reduceEqDiff, Nat.reduceLT, Nat.reduceAdd, Nat.reduceLeDiff, Nat.reduceMul, Nat.reduceSub, Int.reduceLE, Int.reduceLT, Int.reduceToNat, Int.reducePow, Int.reduceEq, f7]
      · simp only [go_sem, Nat.reduceEqDiff, Nat.reduceLT, Nat.reduceAdd, Nat.reduceLeDiff, Nat.reduceMul, Nat.reduceSub, Int.reduceLE, Int.reduceLT, Int.reduceToNat, Int.reducePow, Int.reduceEq, f8]
      · simp only [go_sem, Nat.reduceEqDiff, Nat.reduceLT, Nat.reduceAdd, Nat.reduceLeDiff, Nat.reduceMul, Nat.reduceSub, Int.reduceLE, Int.reduceLT, Int.reduceToNat, Int.reducePow, Int.reduceEq]
      · simp only [go_sem, Nat.reduceEqDiff, Nat.reduceLT, Nat.reduceAdd, Nat.reduceLeDiff, Nat.reduceMul, Nat.reduceSub, Int.reduceLE, Int.reduceLT, Int.reduceToNat, Int.reducePow, Int.reduceEq]
      · simp only [go_sem, Nat.reduceEqDiff, Nat.reduceLT, Nat.reduceAdd, Nat.reduceLeDiff, Nat.reduceMul, Nat.reduceSub, Int.reduceLE, Int.reduceLT, Int.reduceToNat, Int.reducePow, Int.reduceEq]
    | some kk =>
      simp only [listV] at f7'
      (repeat (first | refine W_seq ?_ | refine W_block ?_ | refine W_blk ?_ | refine W_skip ?_))
      (refine W_region [] (by rfl) fun K hK => ?_; simp only [go_sem, Nat.reduceEqDiff, Nat.reduceLT, Nat.reduceAdd, Nat.reduceLeDiff, Nat.reduceMul, Nat.reduceSub, Int.reduceLE, Int.reduceLT, Int.reduceToNat, Int.reducePow, Int.reduceEq, f7', List.length_nil])
      (refine WRun.done _ _ (hK _ _ ?_); clear hK)
      (repeat (first | refine W_seq ?_ | refine W_block ?_ | refine W_blk ?_ | refine W_skip ?_))
      refine W_cond_true (by simp only [go_sem, Nat.reduceEqDiff, Nat.reduceLT, Nat.reduceAdd, Nat.reduceLeDiff, Nat.reduceMul, Nat.reduceSub, Int.reduceLE, Int.reduceLT, Int.reduceToNat, Int.reducePow, Int.reduceEq]) ?_
      (repeat (first | refine W_seq ?_ | refine W_block ?_ | refine W_blk ?_ | refine W_skip ?_))
      (refine W_region [] (by rfl) fun K hK => ?_; simp only [go_sem, Nat.reduceEqDiff, Nat.reduceLT, Nat.reduceAdd, Nat.reduceLeDiff, Nat.reduceMul, Nat.reduceSub, Int.reduceLE, Int.reduceLT, Int.reduceToNat, Int.reducePow, Int.reduceEq, hc, Nat.zero_add])
      (refine WRun.done _ _ (hK _ _ ?_); clear hK)
      (repeat (first | refine W_seq ?_ | refine W_block ?_ | refine W_blk ?_ | refine W_skip ?_))
      refine W_cond_false (by simp only [go_sem, Nat.reduceEqDiff, Nat.reduceLT, Nat.reduceAdd, Nat.reduceLeDiff, Nat.reduceMul, Nat.reduceSub, Int.reduceLE, Int.reduceLT, Int.reduceToNat, Int.reducePow, Int.reduceEq]) ?_
      (repeat (first | refine W_seq ?_ | refine W_block ?_ | refine W_blk ?_ | refine W_skip ?_))
      refine W_exit (Qof_code (hk1 _ _ (hR.next st2 hlen ?_ ?_ ?_ ?_ ?_ ?_ ?_)))
      · simp only [go_sem, Nat.reduceEqDiff, Nat.reduceLT, Nat.reduceAdd, Nat.reduceLeDiff, Nat.reduceMul, Nat.reduceSub, Int.reduceLE, Int.reduceLT, Int.reduceToNat, Int.reducePow, Int.reduceEq]
      · simp only [go_sem, Nat.reduceEqDiff, Nat.reduceLT, Nat.reduceAdd, Nat.reduceLeDiff, Nat.reduceMul, Nat.reduceSub, Int.reduceLE, Int.reduceLT, Int.reduceToNat, Int.reducePow, Int.reduceEq]
      · simp only [go_sem, Nat.reduceEqDiff, Nat.reduceLT, Nat.reduceAdd, Nat.reduceLeDiff, Nat.reduceMul, Nat.reduceSub, Int.reduceLE, Int.reduceLT, Int.reduceToNat, Int.reducePow, Int.reduceEq, f7]
      · simp only [go_sem, Nat.reduceEqDiff, Nat.reduceLT, Nat.reduceAdd, Nat.reduceLeDiff, Nat.reduceMul, Nat.reduceSub, Int.reduceLE, Int.reduceLT, Int.reduceToNat, Int.reducePow, Int.reduceEq, f8]
      · simp only [go_sem, Nat.reduceEqDiff, Nat.reduceLT, Nat.reduceAdd, Nat.reduceLeDiff, Nat.reduceMul, Nat.reduceSub, Int.reduceLE, Int.reduceLT, Int.reduceToNat, Int.reducePow, Int.reduceEq]
      · simp only [go_sem, Nat.reduceEqDiff, Nat.reduceLT, Nat.reduceAdd, Nat.reduceLeDiff, Nat.reduceMul, Nat.reduceSub, Int.reduceLE, Int.reduceLT, Int.reduceToNat, Int.reducePow, Int.reduceEq]
      · simp only [go_sem, Nat.reduceEqDiff, Nat.reduceLT, Nat.reduceAdd, Nat.reduceLeDiff, Nat.reduceMul, Nat.reduceSub, Int.reduceLE, Int.reduceLT, Int.reduceToNat, Int.reducePow, Int.reduceEq]
  · rw [List.concat_eq_append] at hcat
    subst hcat
    have ⟨hst, hlen, f0, f5, f7, f8, f51, f52, f53⟩ := hR
    obtain ⟨hil, hkl, hlkl, hlsl⟩ := hst.lts
    have henc : encL ((ls0 ++ [y]).map LFrm.f) = encL (ls0.map LFrm.f) ++ y.f.enc := by rw [List.map_append, List.map_cons, List.map_nil, encL_snoc]
    have hyl : (encL ((ls0 ++ [y]).map LFrm.f)).length = (encL (ls0.map LFrm.f)).length + (y.f.l.length + 3) := by rw [henc, List.length_append, enc_length]
    cases lk with
    | none => have := hst.list.fnone rfl; simp at this
    | some kk =>
    have hll : (ls0 ++ [y]).length = ls0.length + 1 := by simp
    have hyq : (ls0 ++ [y])[ls0.length]? = some y := by simp
    simp only [listV, hll] at f7
    have hyl300 : y.f.l.length ≤ 16384 := (hst.ok y (by simp)).2.2
    (repeat (first | refine W_seq ?_ | refine W_block ?_ | refine W_blk ?_ | refine W_skip ?_))
    (refine W_region [] (by rfl) fun K hK => ?_; simp only [go_sem, Nat.reduceEqDiff, Nat.reduceLT, Nat.reduceAdd, Nat.reduceLeDiff, Nat.reduceMul, Nat.reduceSub, Int.reduceLE, Int.reduceLT, Int.reduceToNat, Int.reducePow, Int.reduceEq, f5])
    refine WRun.call _ _ _ _ _ _ _ (pop_ok M i most _ k hst.stack (encL (ls0.map LFrm.f)) y.f (hst.ok y (by simp)) henc (by omega)) ?_
    rintro r M1 ⟨⟨tg, rfl⟩, hst1, hml1, hk1'⟩
    simp only [Frm.V]
    simp only [go_sem, Nat.reduceEqDiff, Nat.reduceLT, Nat.reduceAdd, Nat.reduceLeDiff, Nat.reduceMul, Nat.reduceSub, Int.reduceLE, Int.reduceLT, Int.reduceToNat, Int.reducePow, Int.reduceEq, at_left, set_left]
    (refine WRun.done _ _ (hK _ _ ?_); clear hK)
    have hk2 : ∀ j, j < M.length → j ≠ i → (M1 ++ [AObj.cells [V.int y.f.kind, V.int y.f.a, V.int y.f.b, V.list tg (y.f.l.map V.int)]])[j]? = M[j]? := fun j hj hne => by
      rw [List.getElem?_append_left (by omega)]; exact hk1' j hj hne
    have hc : (M1 ++ [AObj.cells [V.int y.f.kind, V.int y.f.a, V.int y.f.b, V.list tg (y.f.l.map V.int)]])[M1.length]? = some (.cells [V.int y.f.kind, V.int y.f.a, V.int y.f.b, V.list tg (y.f.l.map V.int)]) := by simp
    have hst2 : StackAt (M1 ++ [AObj.cells [V.int y.f.kind, V.int y.f.a, V.int y.f.b, V.list tg (y.f.l.map V.int)]]) i most (encL (ls0.map LFrm.f)) k :=
      stack_same hst1 (List.getElem?_append_left (by omega)) (fun q e => List.getElem?_append_left (by have := hkl q e; omega))
    have hl2 : ListAt (M1 ++ [AObj.cells [V.int y.f.kind, V.int y.f.a, V.int y.f.b, V.list tg (y.f.l.map V.int)]]) (ls0 ++ [y]) (some kk) :=
      hst.list.same (fun q e => hk2 q (hlkl q e) (hst.a1 q e).1) (fun z hz => hk2 _ (hlsl z hz) (hst.a2 z hz).1)
    generalize M1 ++ [AObj.cells [V.int y.f.kind, V.int y.f.a, V.int y.f.b, V.list tg (y.f.l.map V.int)]] = M2 at hc hst2 hl2 ⊢
    obtain ⟨cs, hkk, h4, hcy, hcl⟩ := hl2.cell hyq
    have hcy' : (cs.drop (ls0.length * 4)).take 4 = [V.int y.f.kind, V.int y.f.a, V.int y.f.b, V.arr y.id 0 y.f.l.length 1] := by rw [Nat.mul_comm]; exact hcy
    have hz0 : (((ls0.length + 1 : Nat) : Int) = 0) = False := eq_false (by omega)
    have hw1 : IntKind.i64.wrap (((ls0.length + 1 : Nat) : Int) - 1) = (ls0.length : Int) := by rw [wrapI _ (by omega) (by omega)]; omega
    have hlt1 : (ls0.length : Int) < ((ls0.length + 1 : Nat) : Int) := by omega
    have hle1 : (ls0.length : Int) ≤ ((ls0.length + 1 : Nat) : Int) := by omega
    have h44 : 4 ≤ (cs.drop (ls0.length * 4)).length := by rw [List.length_drop]; omega
    have hints := hl2.ints (y := y) (by simp)
    (repeat (first | refine W_seq ?_ | refine W_block ?_ | refine W_blk ?_ | refine W_skip ?_))
    (refine W_region [] (by rfl) fun K hK => ?_; simp only [go_sem, Nat.reduceEqDiff, Nat.reduceLT, Nat.reduceAdd, Nat.reduceLeDiff, Nat.reduceMul, Nat.reduceSub, Int.reduceLE, Int.reduceLT, Int.reduceToNat, Int.reducePow, Int.reduceEq, f7, hz0])
    (refine WRun.done _ _ (hK _ _ ?_); clear hK)
    (repeat (first | refine W_seq ?_ | refine W_block ?_ | refine W_blk ?_ | refine W_skip ?_))
    refine W_cond_false (by simp only [go_sem, Nat.reduceEqDiff, Nat.reduceLT, Nat.reduceAdd, Nat.reduceLeDiff, Nat.reduceMul, Nat.reduceSub, Int.reduceLE, Int.reduceLT, Int.reduceToNat, Int.reducePow, Int.reduceEq]) ?_
    (repeat (first | refine W_seq ?_ | refine W_block ?_ | refine W_blk ?_ | refine W_skip ?_))
    (refine W_draw [] (fun X => X = M2) mixed_ (by rfl) ?_ fun K hK => ?_)
    · rfl
    (refine DR_quiet [0, 1, 2, 3, 4, 5, 6, 7, 8, 9] (by decide +kernel) (fun M_ hS_ => ?_) (fun K2 hK2 => ?_); (focus (simp only [go_sem, Nat.reduceEqDiff, Nat.reduceLT, Nat.reduceAdd, Nat.reduceLeDiff, Nat.reduceMul, Nat.reduceSub, Int.reduceLE, Int.reduceLT, Int.reduceToNat, Int.reducePow, Int.reduceEq, hS_, f7, hc, hkk, hw1, hlt1, h44, hcy', Nat.zero_add, Int.natCast_nonneg, Int.toNat_natCast])); simp only [go_sem, Nat.reduceEqDiff, Nat.reduceLT, Nat.reduceAdd, Nat.reduceLeDiff, Nat.reduceMul, Nat.reduceSub, Int.reduceLE, Int.reduceLT, Int.reduceToNat, Int.reducePow, Int.reduceEq, f7, hc, hkk, hw1, hlt1, h44, hcy', Nat.zero_add, Int.natCast_nonneg, Int.toNat_natCast]; refine hK2 _ ?_; clear hK2)
    (refine DR_sole' 10 (by decide +kernel) (by simp only [go_sem, Nat.reduceEqDiff, Nat.reduceLT, Nat.reduceAdd, Nat.reduceLeDiff, Nat.reduceMul, Nat.reduceSub, Int.reduceLE, Int.reduceLT, Int.reduceToNat, Int.reducePow, Int.reduceEq]) ?_; simp only [go_sem, Nat.reduceEqDiff, Nat.reduceLT, Nat.reduceAdd, Nat.reduceLeDiff, Nat.reduceMul, Nat.reduceSub, Int.reduceLE, Int.reduceLT, Int.reduceToNat, Int.reducePow, Int.reduceEq])
    refine ⟨_, same_eq M2 y.f.kind y.f.a y.f.b tg y.f.l _ hints (by omega), ?_⟩
    rintro r X ⟨rfl, rfl⟩
    refine ⟨rfl, ?_⟩
    (refine DR_quiet [11, 12] (by decide +kernel) (fun M_ hS_ => ?_) (fun K2 hK2 => ?_); (focus (simp only [go_sem, Nat.reduceEqDiff, Nat.reduceLT, Nat.reduceAdd, Nat.reduceLeDiff, Nat.reduceMul, Nat.reduceSub, Int.reduceLE, Int.reduceLT, Int.reduceToNat, Int.reducePow, Int.reduceEq, hS_])); simp only [go_sem, Nat.reduceEqDiff, Nat.reduceLT, Nat.reduceAdd, Nat.reduceLeDiff, Nat.reduceMul, Nat.reduceSub, Int.reduceLE, Int.reduceLT, Int.reduceToNat, Int.reducePow, Int.reduceEq]; refine hK2 _ ?_; clear hK2)
    (refine DR_end (by decide +kernel) (hK _ _ ?_); clear hK)
    refine W_cond_false (by simp only [go_sem, Nat.reduceEqDiff, Nat.reduceLT, Nat.reduceAdd, Nat.reduceLeDiff, Nat.reduceMul, Nat.reduceSub, Int.reduceLE, Int.reduceLT, Int.reduceToNat, Int.reducePow, Int.reduceEq]) ?_
    (repeat (first | refine W_seq ?_ | refine W_block ?_ | refine W_blk ?_ | refine W_skip ?_))
    (refine W_region [] (by rfl) fun K hK => ?_; simp only [go_sem, Nat.reduceEqDiff, Nat.reduceLT, Nat.reduceAdd, Nat.reduceLeDiff, Nat.reduceMul, Nat.reduceSub, Int.reduceLE, Int.reduceLT, Int.reduceToNat, Int.reducePow, Int.reduceEq, f7, hw1, hle1, or_true, Nat.zero_mul, Nat.sub_zero, Int.le_refl, Int.natCast_nonneg, Int.toNat_natCast, Nat.zero_add])
    (refine WRun.done _ _ (hK _ _ ?_); clear hK)
    have e1 : IntKind.i64.wrap (3 + (y.f.l.length : Int)) = ((3 + y.f.l.length : Nat) : Int) := by rw [wrapI _ (by omega) (by omega)]; omega
    have e2 : IntKind.i64.wrap (((encL ((ls0 ++ [y]).map LFrm.f)).length : Int) - ((3 + y.f.l.length : Nat) : Int)) = ((encL (ls0.map LFrm.f)).length : Int) := by rw [wrapI _ (by omega) (by omega)]; omega
    (repeat (first | refine W_seq ?_ | refine W_block ?_ | refine W_blk ?_ | refine W_skip ?_))
    (refine W_region [] (by rfl) fun K hK => ?_; simp only [go_sem, Nat.reduceEqDiff, Nat.reduceLT, Nat.reduceAdd, Nat.reduceLeDiff, Nat.reduceMul, Nat.reduceSub, Int.reduceLE, Int.reduceLT, Int.reduceToNat, Int.reducePow, Int.reduceEq, f8, hc, e1, e2, List.length_map, Nat.zero_add])
    (refine WRun.done _ _ (hK _ _ ?_); clear hK)
    refine hk _ _ ls0 k (some kk) (hR.next ⟨hst2, hl2.pop, fun z hz => hst.ok z (by simp [hz]), hst.a1, fun z hz => hst.a2 z (by simp [hz])⟩ (by omega) ?_ ?_ ?_ ?_ ?_ ?_ ?_) (by simp; omega)
    · simp only [go_sem, Nat.reduceEqDiff, Nat.reduceLT, Nat.reduceAdd, Nat.reduceLeDiff, Nat.reduceMul, Nat.reduceSub, Int.reduceLE, Int.reduceLT, Int.reduceToNat, Int.reducePow, Int.reduceEq]
    · simp only [go_sem, Nat.reduceEqDiff, Nat.reduceLT, Nat.reduceAdd, Nat.reduceLeDiff, Nat.reduceMul, Nat.reduceSub, Int.reduceLE, Int.reduceLT, Int.reduceToNat, Int.reducePow, Int.reduceEq]
    · simp only [go_sem, Nat.reduceEqDiff, Nat.reduceLT, Nat.reduceAdd, Nat.reduceLeDiff, Nat.reduceMul, Nat.reduceSub, Int.reduceLE, Int.reduceLT, Int.reduceToNat, Int.reducePow, Int.reduceEq, listV]
    · simp only [go_sem, Nat.reduceEqDiff, Nat.reduceLT, Nat.reduceAdd, Nat.reduceLeDiff, Nat.reduceMul, Nat.reduceSub, Int.reduceLE, Int.reduceLT, Int.reduceToNat, Int.reducePow, Int.reduceEq]
    · simp only [go_sem, Nat.reduceEqDiff, Nat.reduceLT, Nat.reduceAdd, Nat.reduceLeDiff, Nat.reduceMul, Nat.reduceSub, Int.reduceLE, Int.reduceLT, Int.reduceToNat, Int.reducePow, Int.reduceEq]
    · simp only [go_sem, Nat.reduceEqDiff, Nat.reduceLT, Nat.reduceAdd, Nat.reduceLeDiff, Nat.reduceMul, Nat.reduceSub, Int.reduceLE, Int.reduceLT, Int.reduceToNat, Int.reducePow, Int.reduceEq]
    · simp only [go_sem, Nat.reduceEqDiff, Nat.reduceLT, Nat.reduceAdd, Nat.reduceLeDiff, Nat.reduceMul, Nat.reduceSub, Int.reduceLE, Int.reduceLT, Int.reduceToNat, Int.reducePow, Int.reduceEq]
end Go.Ax

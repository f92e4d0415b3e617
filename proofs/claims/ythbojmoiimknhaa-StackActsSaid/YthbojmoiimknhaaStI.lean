import Derived.Test.YthbojmoiimknhaaStH
set_option linter.unusedSimpArgs false
set_option linter.unusedVariables false
namespace Go.Ax
open Go.Proofs

theorem badF_iff (f : Frm) (h : f.l.length ≤ 300) : badF f = true ↔ bad f.kind f.a f.b f.l.length := by
  simp only [badF, bad, Bool.or_eq_true, decide_eq_true_eq]
  constructor
  · rintro (((h | h) | h) | h)
    · exact .inl h
    · exact .inr (.inl h)
    · exact .inr (.inr (.inl h))
    · exact .inr (.inr (.inr (.inl h)))
  · rintro (h | h | h | h | h)
    · exact .inl (.inl (.inl h))
    · exact .inl (.inl (.inr h))
    · exact .inl (.inr h)
    · exact .inr h
    · omega

theorem lt_of_atS {M : AMem} {i : Nat} {o : AObj} (h : M[i]? = some o) : i < M.length := (List.getElem?_eq_some_iff.1 h).1
theorem ints_one (l : List Int) : ((l.map V.int).all V.one = true) := by
  rw [List.all_eq_true]; intro y hy; obtain ⟨n, _, rfl⟩ := List.mem_map.1 hy; rfl

/-- One frame more on the plain list. -/
theorem push_more {Ret : Fr → AMem → Prop} {k0 : List It} {x o : Nat} {ls : List LFrm} {lk : Option Nat} {a : ActIn} {M : AMem} (hlen : ls.length ≤ 100) (hm : a.f.l.length ≤ 300) (hw : (encL (ls.map LFrm.f)).length ≤ 100000)
    (hl : ListAt M ls lk) (hx : M[x]? = some (.cells a.cells)) (ho : M[o]? = some (.cells (a.f.l.map V.int))) (hxl : lk ≠ some x) (hol : lk ≠ some o)
    (F : Fr) (f7 : look F 7 = listV lk ls.length) (f8 : look F 8 = V.int (encL (ls.map LFrm.f)).length) (f10 : look F 10 = .ptr x 0) (f11 : look F 11 = .arr o 0 a.f.l.length 1)
    (hk : ∀ F' M' lk', (∀ t, t < 159 ∨ 179 < t → t ≠ 7 → t ≠ 8 → look F' t = look F t) → look F' 7 = listV (some lk') (ls.length + 1) → look F' 8 = V.int (encL ((ls ++ [LFrm.mk a.f M.length]).map LFrm.f)).length → M.length < M'.length → lk' = M.length + 1 → M'[M.length]? = some (.cells (a.f.l.map V.int)) →
      (∃ cs, M'[lk']? = some (.cells cs) ∧ cs.take (4 * (ls.length + 1)) = (ls ++ [LFrm.mk a.f M.length]).flatMap LFrm.cells) → (∀ j, j < M.length → lk ≠ some j → M'[j]? = M[j]?) → W Try.prog 301 Ret k0 F' M') :
    W Try.prog 301 Ret (.code (part [1,1,1,1,1,1,0,1,1,1,1,1,0,1,1,0,1,1,1,0,1,1,1,1,0,1,1,1,1,1] body3) :: k0) F M := by
  have e1 : IntKind.i64.wrap (3 + (a.f.l.length : Int)) = ((3 + a.f.l.length : Nat) : Int) := by rw [wrapI _ (by omega) (by omega)]; omega
  have he : (encL ((ls ++ [LFrm.mk a.f M.length]).map LFrm.f)).length = (encL (ls.map LFrm.f)).length + (3 + a.f.l.length) := by
    rw [List.map_append, encL, List.flatMap_append, List.length_append]
    show _ + (encL [a.f]).length = _
    simp [encL, enc_length]; omega
  have e2 : IntKind.i64.wrap (((encL (ls.map LFrm.f)).length : Int) + ((3 + a.f.l.length : Nat) : Int)) = ((encL ((ls ++ [LFrm.mk a.f M.length]).map LFrm.f)).length : Int) := by rw [wrapI _ (by omega) (by omega), he]; omega
  simp only [ActIn.cells] at hx
  have ne : ∀ {t : Nat}, (t < 159 ∨ 179 < t) → ∀ {u : Nat}, 159 ≤ u → u ≤ 179 → (t = u) = False := fun h _ h1 h2 => eq_false (by omega)
  have hone := ints_one a.f.l
  have hlen2 : (a.f.l.map V.int).length = a.f.l.length := by simp
  have htk : (a.f.l.map V.int).take a.f.l.length = a.f.l.map V.int := List.take_of_length_le (by simp)
  have hl30 : a.f.l.length ≤ 1073741824 := by omega
  have hl31 : 0 + a.f.l.length ≤ 1073741824 := by omega
  have hle0 : a.f.l.length ≤ (a.f.l.map V.int).length := by simp
  have hxl' := lt_of_atS hx
  have hol' := lt_of_atS ho
  (repeat (first | refine W_seq ?_ | refine W_block ?_ | refine W_blk ?_ | refine W_skip ?_))
  (refine W_region [] (by rfl) fun K hK => ?_; simp only [go_sem, Nat.reduceEqDiff, Nat.reduceLT, Nat.reduceAdd, Nat.reduceLeDiff, Nat.reduceMul, Nat.reduceSub, Int.reduceLE, Int.reduceLT, Int.reduceToNat, Int.reducePow, Int.reduceEq, f8, f11, e1, e2])
  (refine WRun.done _ _ (hK _ _ ?_); clear hK)
  (repeat (first | refine W_seq ?_ | refine W_block ?_ | refine W_blk ?_ | refine W_skip ?_))
  (refine W_draw [176, 179] (fun X => X[x]? = some (.cells [.prim (.int .u8 a.kd), .int a.f.kind, .int a.f.a, .int a.f.b, .list .dull (a.f.l.map .int), .int a.n])) mixed_ (by rfl) ?_ fun K hK => ?_)
  · exact hx
  (refine DR_quiet [0, 1, 2, 3, 4, 5, 6, 7, 8, 9, 10, 11] (by decide +kernel) (fun M_ hS_ => ?_) (fun K2 hK2 => ?_); (focus (simp only [go_sem, Nat.reduceEqDiff, Nat.reduceLT, Nat.reduceAdd, Nat.reduceLeDiff, Nat.reduceMul, Nat.reduceSub, Int.reduceLE, Int.reduceLT, Int.reduceToNat, Int.reducePow, Int.reduceEq, hS_, f7, f10, f11, hx, Nat.zero_add])); simp only [go_sem, Nat.reduceEqDiff, Nat.reduceLT, Nat.reduceAdd, Nat.reduceLeDiff, Nat.reduceMul, Nat.reduceSub, Int.reduceLE, Int.reduceLT, Int.reduceToNat, Int.reducePow, Int.reduceEq, f7, f10, f11, hx, Nat.zero_add]; refine hK2 _ ?_; clear hK2)
  (refine DR_sole' 12 (by decide +kernel) (by simp only [go_sem, Nat.reduceEqDiff, Nat.reduceLT, Nat.reduceAdd, Nat.reduceLeDiff, Nat.reduceMul, Nat.reduceSub, Int.reduceLE, Int.reduceLT, Int.reduceToNat, Int.reducePow, Int.reduceEq, ho, Nat.le_refl, htk, hone, hlen2, hl30, hl31, Nat.zero_add, List.drop_zero]) ?_; simp only [go_sem, Nat.reduceEqDiff, Nat.reduceLT, Nat.reduceAdd, Nat.reduceLeDiff, Nat.reduceMul, Nat.reduceSub, Int.reduceLE, Int.reduceLT, Int.reduceToNat, Int.reducePow, Int.reduceEq, ho, Nat.le_refl, htk, hone, hlen2, hl30, hl31, Nat.zero_add, List.drop_zero])
  refine ⟨by rw [List.getElem?_append_left hxl']; exact hx, ?_⟩
  (refine DR_quiet [13, 14] (by decide +kernel) (fun M_ hS_ => ?_) (fun K2 hK2 => ?_); (focus (simp only [go_sem, Nat.reduceEqDiff, Nat.reduceLT, Nat.reduceAdd, Nat.reduceLeDiff, Nat.reduceMul, Nat.reduceSub, Int.reduceLE, Int.reduceLT, Int.reduceToNat, Int.reducePow, Int.reduceEq, hS_, hl30])); simp only [go_sem, Nat.reduceEqDiff, Nat.reduceLT, Nat.reduceAdd, Nat.reduceLeDiff, Nat.reduceMul, Nat.reduceSub, Int.reduceLE, Int.reduceLT, Int.reduceToNat, Int.reducePow, Int.reduceEq, hl30]; refine hK2 _ ?_; clear hK2)
  have hcs : ∀ (L : List V), (LFrm.mk a.f M.length).cells = [V.int a.f.kind, V.int a.f.a, V.int a.f.b, V.arr M.length 0 a.f.l.length 1] := fun _ => rfl
  cases lk with
  | none =>
    have hls := hl.fnone rfl
    simp only [listV] at f7
    (refine DR_sole' 15 (by decide +kernel) (by simp only [go_sem, Nat.reduceEqDiff, Nat.reduceLT, Nat.reduceAdd, Nat.reduceLeDiff, Nat.reduceMul, Nat.reduceSub, Int.reduceLE, Int.reduceLT, Int.reduceToNat, Int.reducePow, Int.reduceEq, listV]) ?_; simp only [go_sem, Nat.reduceEqDiff, Nat.reduceLT, Nat.reduceAdd, Nat.reduceLeDiff, Nat.reduceMul, Nat.reduceSub, Int.reduceLE, Int.reduceLT, Int.reduceToNat, Int.reducePow, Int.reduceEq, listV])
    refine ⟨by rw [List.getElem?_append_left (by simp; omega), List.getElem?_append_left hxl']; exact hx, ?_⟩
    (refine DR_quiet [16] (by decide +kernel) (fun M_ hS_ => ?_) (fun K2 hK2 => ?_); (focus (simp only [go_sem, Nat.reduceEqDiff, Nat.reduceLT, Nat.reduceAdd, Nat.reduceLeDiff, Nat.reduceMul, Nat.reduceSub, Int.reduceLE, Int.reduceLT, Int.reduceToNat, Int.reducePow, Int.reduceEq, hS_])); simp only [go_sem, Nat.reduceEqDiff, Nat.reduceLT, Nat.reduceAdd, Nat.reduceLeDiff, Nat.reduceMul, Nat.reduceSub, Int.reduceLE, Int.reduceLT, Int.reduceToNat, Int.reducePow, Int.reduceEq]; refine hK2 _ ?_; clear hK2)
    (refine DR_end (by decide +kernel) (hK _ _ ?_); clear hK)
    refine hk _ _ (M.length + 1) (fun t ht h7 h8 => ?_) ?_ ?_ (by simp) rfl ?_ ⟨(LFrm.mk a.f M.length).cells, ?_, ?_⟩ (fun j hj _ => ?_)
    · simp only [go_sem, Nat.reduceEqDiff, Nat.reduceLT, Nat.reduceAdd, Nat.reduceLeDiff, Nat.reduceMul, Nat.reduceSub, Int.reduceLE, Int.reduceLT, Int.reduceToNat, Int.reducePow, Int.reduceEq, h7, h8, ne ht, if_false]
    · simp only [go_sem, Nat.reduceEqDiff, Nat.reduceLT, Nat.reduceAdd, Nat.reduceLeDiff, Nat.reduceMul, Nat.reduceSub, Int.reduceLE, Int.reduceLT, Int.reduceToNat, Int.reducePow, Int.reduceEq, hls, listV, List.length_append, List.length_nil]
    · simp only [go_sem, Nat.reduceEqDiff, Nat.reduceLT, Nat.reduceAdd, Nat.reduceLeDiff, Nat.reduceMul, Nat.reduceSub, Int.reduceLE, Int.reduceLT, Int.reduceToNat, Int.reducePow, Int.reduceEq]
    · rw [List.getElem?_append_left (by simp), List.getElem?_append_right (Nat.le_refl _)]; simp
    · rw [List.getElem?_append_right (by simp)]; simp; rfl
    · rw [hls]; simp [LFrm.cells]
    · rw [List.getElem?_append_left (by simp; omega), List.getElem?_append_left hj]
  | some kk =>
    obtain ⟨cs, hkk, hct⟩ := hl.fsome kk rfl
    have hkl := lt_of_atS hkk
    have hkl2 : kk < (M ++ [AObj.cells (a.f.l.map V.int)]).length := by simp; omega
    have hcl : ls.length * 4 ≤ cs.length := by
      have h1 : (ls.flatMap LFrm.cells).length = 4 * ls.length := by
        clear hlen hw hl f7 f8 hk e2 he hct
        induction ls with
        | nil => rfl
        | cons b ls ih => rw [List.flatMap_cons, List.length_append, ih]; simp [LFrm.cells]; omega
      have := congrArg List.length hct
      rw [h1, List.length_take] at this
      omega
    have hkk2 : (M ++ [AObj.cells (a.f.l.map V.int)])[kk]? = some (.cells cs) := by rw [List.getElem?_append_left hkl]; exact hkk
    have hl100 : ls.length + 1 ≤ 1073741824 := by omega
    simp only [listV] at f7
    have hxk : kk ≠ x := fun e => hxl (by rw [e])
    (refine DR_sole' 15 (by decide +kernel) (by simp only [go_sem, Nat.reduceEqDiff, Nat.reduceLT, Nat.reduceAdd, Nat.reduceLeDiff, Nat.reduceMul, Nat.reduceSub, Int.reduceLE, Int.reduceLT, Int.reduceToNat, Int.reducePow, Int.reduceEq, listV, hkk2, hcl, hl100]) ?_; simp only [go_sem, Nat.reduceEqDiff, Nat.reduceLT, Nat.reduceAdd, Nat.reduceLeDiff, Nat.reduceMul, Nat.reduceSub, Int.reduceLE, Int.reduceLT, Int.reduceToNat, Int.reducePow, Int.reduceEq, listV, hkk2, hcl, hl100])
    refine ⟨by rw [List.getElem?_append_left (by simp; omega), List.getElem?_set_ne hxk, List.getElem?_append_left hxl']; exact hx, ?_⟩
    (refine DR_quiet [16] (by decide +kernel) (fun M_ hS_ => ?_) (fun K2 hK2 => ?_); (focus (simp only [go_sem, Nat.reduceEqDiff, Nat.reduceLT, Nat.reduceAdd, Nat.reduceLeDiff, Nat.reduceMul, Nat.reduceSub, Int.reduceLE, Int.reduceLT, Int.reduceToNat, Int.reducePow, Int.reduceEq, hS_])); simp only [go_sem, Nat.reduceEqDiff, Nat.reduceLT, Nat.reduceAdd, Nat.reduceLeDiff, Nat.reduceMul, Nat.reduceSub, Int.reduceLE, Int.reduceLT, Int.reduceToNat, Int.reducePow, Int.reduceEq]; refine hK2 _ ?_; clear hK2)
    (refine DR_end (by decide +kernel) (hK _ _ ?_); clear hK)
    refine hk _ _ (M.length + 1) (fun t ht h7 h8 => ?_) ?_ ?_ (by simp <;> omega) rfl ?_ ⟨cs.take (ls.length * 4) ++ (LFrm.mk a.f M.length).cells, ?_, ?_⟩ (fun j hj hne => ?_)
    · simp only [go_sem, Nat.reduceEqDiff, Nat.reduceLT, Nat.reduceAdd, Nat.reduceLeDiff, Nat.reduceMul, Nat.reduceSub, Int.reduceLE, Int.reduceLT, Int.reduceToNat, Int.reducePow, Int.reduceEq, h7, h8, ne ht, if_false]
    · simp only [go_sem, Nat.reduceEqDiff, Nat.reduceLT, Nat.reduceAdd, Nat.reduceLeDiff, Nat.reduceMul, Nat.reduceSub, Int.reduceLE, Int.reduceLT, Int.reduceToNat, Int.reducePow, Int.reduceEq, listV, List.length_append, List.length_set]
    · simp only [go_sem, Nat.reduceEqDiff, Nat.reduceLT, Nat.reduceAdd, Nat.reduceLeDiff, Nat.reduceMul, Nat.reduceSub, Int.reduceLE, Int.reduceLT, Int.reduceToNat, Int.reducePow, Int.reduceEq]
    · rw [List.getElem?_append_left (by simp), List.getElem?_set_ne (by omega), List.getElem?_append_right (Nat.le_refl _)]; simp
    · rw [List.getElem?_append_right (by simp)]; simp; rfl
    · have h4 : ls.length * 4 = 4 * ls.length := Nat.mul_comm _ _
      rw [h4, hct, List.flatMap_append]
      exact List.take_of_length_le (by
        have := congrArg List.length hct
        rw [List.length_take] at this
        simp [LFrm.cells] at this ⊢; omega)
    · rw [List.getElem?_append_left (by simp; omega), List.getElem?_set_ne (fun e => hne (by rw [e])), List.getElem?_append_left hj]
end Go.Ax

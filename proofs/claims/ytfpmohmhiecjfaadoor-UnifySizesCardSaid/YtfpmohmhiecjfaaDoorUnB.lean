/- What grows alone; a type with something in the place of a variable. Conditions: none. -/
import Derived.Test.YtfpmohmhiecjfaaDoorUnA
set_option linter.unusedSimpArgs false
set_option linter.unusedVariables false
namespace Go.Ax
open Go.Proofs Go.Uni

/-- The memory has more, and what was there is the same. -/
def Ext (M M' : AMem) : Prop := M.length ≤ M'.length ∧ ∀ j, j < M.length → M'[j]? = M[j]?
theorem Ext.refl (M : AMem) : Ext M M := ⟨Nat.le_refl _, fun _ _ => rfl⟩
theorem Ext.app {M M' : AMem} (h : Ext M M') (L : AMem) : Ext M (M' ++ L) :=
  ⟨by rw [List.length_append]; have := h.1; omega, fun j hj => by rw [List.getElem?_append_left (Nat.lt_of_lt_of_le hj h.1)]; exact h.2 j hj⟩
theorem Ext.set {M M' : AMem} (h : Ext M M') {k : Nat} (hk : M.length ≤ k) (x : AObj) : Ext M (M'.set k x) :=
  ⟨by rw [List.length_set]; exact h.1, fun j hj => by rw [List.getElem?_set_ne (by omega)]; exact h.2 j hj⟩
theorem Ext.out {M M' : AMem} (h : Ext M M') : ∃ L, M' = M ++ L := by
  refine ⟨M'.drop M.length, ?_⟩
  refine List.ext_getElem? fun j => ?_
  by_cases hj : j < M.length
  · rw [List.getElem?_append_left hj]; exact h.2 j hj
  · rw [List.getElem?_append_right (by omega), List.getElem?_drop]; congr 1; omega
theorem Ext.trans {M M' M'' : AMem} (h : Ext M M') (h' : Ext M' M'') : Ext M M'' :=
  ⟨Nat.le_trans h.1 h'.1, fun j hj => (h'.2 j (Nat.lt_of_lt_of_le hj h.1)).trans (h.2 j hj)⟩
/-- Who may append to this slice, since so many objects were there. -/
def TgIn (n : Nat) (tg : Tag) (M : AMem) : Prop := tagOk tg M = true ∧ ∀ k, tg = .own k → n ≤ k
theorem TgIn.full (n : Nat) (M : AMem) : TgIn n .full M := ⟨rfl, fun k h => by cases h⟩
theorem TgIn.new (n : Nat) (M : AMem) (h : n ≤ M.length) : TgIn n (.own M.length) (M ++ [.tail]) := ⟨by simp [tagOk], fun k e => by injection e with e; omega⟩
theorem dropTag_ext {M M' : AMem} (h : Ext M M') {tg : Tag} (ht : TgIn M.length tg M') : Ext M (dropTag tg M') := by
  cases tg with
  | own k => exact h.set (ht.2 k rfl) _
  | _ => exact h
theorem dropTag_at {M : AMem} {tg : Tag} {n : Nat} (ht : TgIn n tg M) {o : Nat} {cs : List V} (h : M[o]? = some (.cells cs)) : (dropTag tg M)[o]? = some (.cells cs) := by
  cases tg with
  | own k =>
    have h1 := ht.1
    simp only [tagOk] at h1
    have : k ≠ o := fun e => by subst e; rw [h] at h1; cases h1
    simp only [dropTag]
    rw [List.getElem?_set_ne this]; exact h
  | _ => exact h
theorem dropTag_len (tg : Tag) (M : AMem) : (dropTag tg M).length = M.length := dropTag_length tg M
theorem TgIn.set {n : Nat} {tg : Tag} {M : AMem} (h : TgIn n tg M) {o : Nat} {cs cs' : List V} (ho : M[o]? = some (.cells cs)) : TgIn n tg (M.set o (.cells cs')) := by
  refine ⟨?_, h.2⟩
  have h1 := h.1
  cases tg with
  | own k =>
    simp only [tagOk] at h1 ⊢
    have : o ≠ k := fun e => by subst e; rw [ho] at h1; cases h1
    rw [List.getElem?_set_ne this]; exact h1
  | _ => exact h1
theorem TgIn.app {n : Nat} {tg : Tag} {M : AMem} (h : TgIn n tg M) (L : AMem) : TgIn n tg (M ++ L) := by
  refine ⟨?_, h.2⟩
  have h1 := h.1
  cases tg with
  | own k =>
    simp only [tagOk] at h1 ⊢
    cases hk : M[k]? with
    | none => rw [hk] at h1; cases h1
    | some x => rw [List.getElem?_append_left (List.getElem?_eq_some_iff.1 hk).1]; exact h1
  | _ => exact h1
theorem PCalls.at {P : Program} {f : FuncId} {args args' : List V} {r : V} {M : AMem} {Q : V → AMem → Prop} (h : PCalls P f args' r) (ha : args.map V.un = args') (hk : Q r M) : ∃ R, ACalls P f args M R ∧ ∀ v M', R v M' → Q v M' := by
  subst ha
  refine ⟨_, (h M).unArgs, ?_⟩
  rintro v M' ⟨rfl, rfl⟩
  exact hk
theorem mem_size {x : Ty} : ∀ {l : List Ty}, x ∈ l → x.size ≤ Ty.sizeL l
  | y :: l, h => by
    rw [Ty.sizeL]
    rcases List.mem_cons.1 h with rfl | h
    · omega
    · have := mem_size h; omega
theorem app_size {f : ByteArray} {l : List Ty} {x : Ty} (h : x ∈ l) : x.size < (Ty.app f l).size := by
  have := mem_size h
  rw [Ty.size]; omega
theorem encL_ok' (l : List Ty) : (∀ x, x ∈ encL l → x.cells.length = 3) = True := eq_true (encL_ok l)
theorem put_var (v n : Nat) (u : Ty) : (Ty.var v).put n u = if v = n then u else .var v := rfl
theorem put_app (f : ByteArray) (l : List Ty) (n : Nat) (u : Ty) : (Ty.app f l).put n u = .app f (l.map fun x => x.put n u) := by rw [Ty.put, Ty.sub, Ty.subL_eq]; rfl

set_option maxHeartbeats 4000000 in
theorem put_ok (u : Ty) (n : Nat) : ∀ (N : Nat) (t : Ty), t.size ≤ N → Ar t → PCalls Tryd.prog 20 [enc t, V.int n, enc u] (enc (t.put n u))
  | 0, t, h, _ => by cases t <;> simp [Ty.size] at h
  | N + 1, t, h, hA => by
    refine pcalls_of (enc_closed _) fun M => ?_
    refine acalls_enter [.cell 6 30] 44 Tryd.func20 rfl rfl rfl (by simp) ?_
    cases t with
    | var v =>
      have h0 : (0 : Int) ≤ (v : Int) := Int.natCast_nonneg v
      (repeat (first | refine W_seq ?_ | refine W_block ?_ | refine W_blk ?_ | refine W_skip ?_ | (refine W_region [3, 5] (by rfl) fun K hK => ?_; simp only [go_sem, Nat.reduceEqDiff, Nat.reduceLT, Nat.reduceAdd, Nat.reduceLeDiff, Nat.reduceMul, Nat.reduceSub, Int.reduceLE, Int.reduceLT, Int.reduceToNat, Int.reducePow, Int.reduceEq]; refine WRun.done _ _ (hK _ _ ?_); clear hK)))
      refine W_cond_true (by simp only [go_sem, Nat.reduceEqDiff, Nat.reduceLT, Nat.reduceAdd, Nat.reduceLeDiff, Nat.reduceMul, Nat.reduceSub, Int.reduceLE, Int.reduceLT, Int.reduceToNat, Int.reducePow, Int.reduceEq, h0]) ?_
      (repeat (first | refine W_seq ?_ | refine W_block ?_ | refine W_blk ?_ | refine W_skip ?_ | (refine W_region [] (by rfl) fun K hK => ?_; simp only [go_sem, Nat.reduceEqDiff, Nat.reduceLT, Nat.reduceAdd, Nat.reduceLeDiff, Nat.reduceMul, Nat.reduceSub, Int.reduceLE, Int.reduceLT, Int.reduceToNat, Int.reducePow, Int.reduceEq]; refine WRun.done _ _ (hK _ _ ?_); clear hK)))
      by_cases hv : v = n
      · subst hv
        refine W_cond_true (by simp only [go_sem, Nat.reduceEqDiff, Nat.reduceLT, Nat.reduceAdd, Nat.reduceLeDiff, Nat.reduceMul, Nat.reduceSub, Int.reduceLE, Int.reduceLT, Int.reduceToNat, Int.reducePow, Int.reduceEq]) ?_
        (repeat (first | refine W_seq ?_ | refine W_block ?_ | refine W_blk ?_ | refine W_skip ?_ | (refine W_region [] (by rfl) fun K hK => ?_; simp only [go_sem, Nat.reduceEqDiff, Nat.reduceLT, Nat.reduceAdd, Nat.reduceLeDiff, Nat.reduceMul, Nat.reduceSub, Int.reduceLE, Int.reduceLT, Int.reduceToNat, Int.reducePow, Int.reduceEq]; refine WRun.done _ _ (hK _ _ ?_); clear hK)))
        refine W_ret ?_
        simp only [go_sem, Nat.reduceEqDiff, Nat.reduceLT, Nat.reduceAdd, Nat.reduceLeDiff, Nat.reduceMul, Nat.reduceSub, Int.reduceLE, Int.reduceLT, Int.reduceToNat, Int.reducePow, Int.reduceEq, put_var]
        refine ⟨?_, _, rfl⟩
        simp only [go_sem, Nat.reduceEqDiff, Nat.reduceLT, Nat.reduceAdd, Nat.reduceLeDiff, Nat.reduceMul, Nat.reduceSub, Int.reduceLE, Int.reduceLT, Int.reduceToNat, Int.reducePow, Int.reduceEq, enc_eq]
      · have hv' : (v : Int) ≠ (n : Int) := fun e => hv (Int.ofNat.inj e)
        refine W_cond_false (by simp only [go_sem, Nat.reduceEqDiff, Nat.reduceLT, Nat.reduceAdd, Nat.reduceLeDiff, Nat.reduceMul, Nat.reduceSub, Int.reduceLE, Int.reduceLT, Int.reduceToNat, Int.reducePow, Int.reduceEq, hv']) ?_
        (repeat (first | refine W_seq ?_ | refine W_block ?_ | refine W_blk ?_ | refine W_skip ?_ | (refine W_region [] (by rfl) fun K hK => ?_; simp only [go_sem, Nat.reduceEqDiff, Nat.reduceLT, Nat.reduceAdd, Nat.reduceLeDiff, Nat.reduceMul, Nat.reduceSub, Int.reduceLE, Int.reduceLT, Int.reduceToNat, Int.reducePow, Int.reduceEq]; refine WRun.done _ _ (hK _ _ ?_); clear hK)))
        refine W_ret ?_
        simp only [go_sem, Nat.reduceEqDiff, Nat.reduceLT, Nat.reduceAdd, Nat.reduceLeDiff, Nat.reduceMul, Nat.reduceSub, Int.reduceLE, Int.reduceLT, Int.reduceToNat, Int.reducePow, Int.reduceEq, put_var]
        refine ⟨?_, _, rfl⟩
        simp only [go_sem, Nat.reduceEqDiff, Nat.reduceLT, Nat.reduceAdd, Nat.reduceLeDiff, Nat.reduceMul, Nat.reduceSub, Int.reduceLE, Int.reduceLT, Int.reduceToNat, Int.reducePow, Int.reduceEq, hv, enc_eq]
        rfl
    | app f l =>
      rw [Ar_app] at hA
      (repeat (first | refine W_seq ?_ | refine W_block ?_ | refine W_blk ?_ | refine W_skip ?_ | (refine W_region [3, 5] (by rfl) fun K hK => ?_; simp only [go_sem, Nat.reduceEqDiff, Nat.reduceLT, Nat.reduceAdd, Nat.reduceLeDiff, Nat.reduceMul, Nat.reduceSub, Int.reduceLE, Int.reduceLT, Int.reduceToNat, Int.reducePow, Int.reduceEq]; refine WRun.done _ _ (hK _ _ ?_); clear hK)))
      refine W_cond_false (by simp only [go_sem, Nat.reduceEqDiff, Nat.reduceLT, Nat.reduceAdd, Nat.reduceLeDiff, Nat.reduceMul, Nat.reduceSub, Int.reduceLE, Int.reduceLT, Int.reduceToNat, Int.reducePow, Int.reduceEq]) ?_
      (repeat (first | refine W_seq ?_ | refine W_block ?_ | refine W_blk ?_ | refine W_skip ?_ | (refine W_region [] (by rfl) fun K hK => ?_; simp only [go_sem, Nat.reduceEqDiff, Nat.reduceLT, Nat.reduceAdd, Nat.reduceLeDiff, Nat.reduceMul, Nat.reduceSub, Int.reduceLE, Int.reduceLT, Int.reduceToNat, Int.reducePow, Int.reduceEq]; refine WRun.done _ _ (hK _ _ ?_); clear hK)))
      refine W_loop (α := Nat) (fun i F' M' => i ≤ l.length ∧ look F' 1 = V.int n ∧ look F' 3 = .pc [V.int (-1), V.str f, .list .dull (encL l)] ∧ look F' 5 = .pc [V.int (hd u), V.str (nm u), .list .dull (encL (ar u))] ∧ look F' 6 = .ptr M.length 0 ∧
        look F' 7 = .ptr (M.length + 1) 0 ∧ look F' 8 = V.int i ∧ (∃ a b c, M'[M.length]? = some (.cells [a, b, c])) ∧ Ext M M' ∧ ∃ tg, TgIn M.length tg M' ∧ M'[M.length + 1]? = some (.cells [V.int (-1), V.str f, .list tg (encL ((l.take i).map fun x => x.put n u))]))
        (fun i => l.length - i) 0 ⟨Nat.zero_le _, ?_, ?_, ?_, ?_, ?_, ?_, ⟨V.int 0, V.str ⟨#[]⟩, .list .full [], ?_⟩, ?_, .full, .full _ _, ?_⟩ ?_
      · simp only [go_sem, Nat.reduceEqDiff, Nat.reduceLT, Nat.reduceAdd, Nat.reduceLeDiff, Nat.reduceMul, Nat.reduceSub, Int.reduceLE, Int.reduceLT, Int.reduceToNat, Int.reducePow, Int.reduceEq]
      · simp only [go_sem, Nat.reduceEqDiff, Nat.reduceLT, Nat.reduceAdd, Nat.reduceLeDiff, Nat.reduceMul, Nat.reduceSub, Int.reduceLE, Int.reduceLT, Int.reduceToNat, Int.reducePow, Int.reduceEq]
      · simp only [go_sem, Nat.reduceEqDiff, Nat.reduceLT, Nat.reduceAdd, Nat.reduceLeDiff, Nat.reduceMul, Nat.reduceSub, Int.reduceLE, Int.reduceLT, Int.reduceToNat, Int.reducePow, Int.reduceEq]
      · simp only [go_sem, Nat.reduceEqDiff, Nat.reduceLT, Nat.reduceAdd, Nat.reduceLeDiff, Nat.reduceMul, Nat.reduceSub, Int.reduceLE, Int.reduceLT, Int.reduceToNat, Int.reducePow, Int.reduceEq]
      · simp only [go_sem, Nat.reduceEqDiff, Nat.reduceLT, Nat.reduceAdd, Nat.reduceLeDiff, Nat.reduceMul, Nat.reduceSub, Int.reduceLE, Int.reduceLT, Int.reduceToNat, Int.reducePow, Int.reduceEq]
      · simp only [go_sem, Nat.reduceEqDiff, Nat.reduceLT, Nat.reduceAdd, Nat.reduceLeDiff, Nat.reduceMul, Nat.reduceSub, Int.reduceLE, Int.reduceLT, Int.reduceToNat, Int.reducePow, Int.reduceEq]
      · exact at_app (at_snoc rfl)
      · exact ((Ext.refl M).app _).app _
      · exact at_snoc (by simp)
      rintro i F' M' ⟨hi, f1, f3, f5, f6, f7, f8, ⟨a, b, c, hq⟩, hx, tg, htg, ho⟩
      by_cases hlt : i < l.length
      · have hlt' : (i : Int) < (l.length : Int) := by omega
        have hw : IntKind.i64.wrap ((i : Int) + 1) = ((i + 1 : Nat) : Int) := by rw [wrapI _ (by omega) (by omega)]; omega
        obtain ⟨x, hxl⟩ : ∃ x, l[i]? = some x := ⟨l[i], by simp [hlt]⟩
        have hxm : x ∈ l := List.mem_of_getElem? hxl
        have hat := encL_at hxl
        (repeat (first | refine W_seq ?_ | refine W_block ?_ | refine W_blk ?_ | refine W_skip ?_ | (refine W_region [] (by rfl) fun K hK => ?_; simp only [go_sem, Nat.reduceEqDiff, Nat.reduceLT, Nat.reduceAdd, Nat.reduceLeDiff, Nat.reduceMul, Nat.reduceSub, Int.reduceLE, Int.reduceLT, Int.reduceToNat, Int.reducePow, Int.reduceEq, f3, f8, hlt']; refine WRun.done _ _ (hK _ _ ?_); clear hK)))
        refine W_cond_true (by simp only [go_sem, Nat.reduceEqDiff, Nat.reduceLT, Nat.reduceAdd, Nat.reduceLeDiff, Nat.reduceMul, Nat.reduceSub, Int.reduceLE, Int.reduceLT, Int.reduceToNat, Int.reducePow, Int.reduceEq]) ?_
        (repeat (first | refine W_seq ?_ | refine W_block ?_ | refine W_blk ?_ | refine W_skip ?_))
        (refine W_draw [] (fun X => X[M.length + 1]? = some (.cells [V.int (-1), V.str f, .list tg (encL ((l.take i).map fun x => x.put n u))])) mixed_ (by rfl) ?_ fun K hK => ?_)
        · exact ho
        (refine DR_quiet [0, 1, 2, 3, 4, 5, 6, 7, 8] (by decide +kernel) (fun M_ hS_ => ?_) (fun K2 hK2 => ?_); (focus (simp only [go_sem, Nat.reduceEqDiff, Nat.reduceLT, Nat.reduceAdd, Nat.reduceLeDiff, Nat.reduceMul, Nat.reduceSub, Int.reduceLE, Int.reduceLT, Int.reduceToNat, Int.reducePow, Int.reduceEq, hS_, ho, f1, f3, f5, f7, f8, hat, Int.natCast_nonneg, Int.toNat_natCast])); simp only [go_sem, Nat.reduceEqDiff, Nat.reduceLT, Nat.reduceAdd, Nat.reduceLeDiff, Nat.reduceMul, Nat.reduceSub, Int.reduceLE, Int.reduceLT, Int.reduceToNat, Int.reducePow, Int.reduceEq, ho, f1, f3, f5, f7, f8, hat, Int.natCast_nonneg, Int.toNat_natCast]; refine hK2 _ ?_; clear hK2)
        (refine DR_sole' 9 (by decide +kernel) (by simp only [go_sem, Nat.reduceEqDiff, Nat.reduceLT, Nat.reduceAdd, Nat.reduceLeDiff, Nat.reduceMul, Nat.reduceSub, Int.reduceLE, Int.reduceLT, Int.reduceToNat, Int.reducePow, Int.reduceEq]) ?_; simp only [go_sem, Nat.reduceEqDiff, Nat.reduceLT, Nat.reduceAdd, Nat.reduceLeDiff, Nat.reduceMul, Nat.reduceSub, Int.reduceLE, Int.reduceLT, Int.reduceToNat, Int.reducePow, Int.reduceEq])
        refine PCalls.at (put_ok u n N x (by have := app_size (f := f) hxm; omega) (hA.2 x hxm)) (by simp only [go_sem, Nat.reduceEqDiff, Nat.reduceLT, Nat.reduceAdd, Nat.reduceLeDiff, Nat.reduceMul, Nat.reduceSub, Int.reduceLE, Int.reduceLT, Int.reduceToNat, Int.reducePow, Int.reduceEq, enc_eq]) ⟨ho, ?_⟩
        (refine DR_quiet [10] (by decide +kernel) (fun M_ hS_ => ?_) (fun K2 hK2 => ?_); (focus (simp only [go_sem, Nat.reduceEqDiff, Nat.reduceLT, Nat.reduceAdd, Nat.reduceLeDiff, Nat.reduceMul, Nat.reduceSub, Int.reduceLE, Int.reduceLT, Int.reduceToNat, Int.reducePow, Int.reduceEq, hS_])); simp only [go_sem, Nat.reduceEqDiff, Nat.reduceLT, Nat.reduceAdd, Nat.reduceLeDiff, Nat.reduceMul, Nat.reduceSub, Int.reduceLE, Int.reduceLT, Int.reduceToNat, Int.reducePow, Int.reduceEq]; refine hK2 _ ?_; clear hK2)
        have hle : (l.take i).length ≤ 1073741823 := by rw [List.length_take]; omega
        (refine DR_sole' 11 (by decide +kernel) (by simp only [go_sem, Nat.reduceEqDiff, Nat.reduceLT, Nat.reduceAdd, Nat.reduceLeDiff, Nat.reduceMul, Nat.reduceSub, Int.reduceLE, Int.reduceLT, Int.reduceToNat, Int.reducePow, Int.reduceEq, htg.1, encL_ok', hle]) ?_; simp only [go_sem, Nat.reduceEqDiff, Nat.reduceLT, Nat.reduceAdd, Nat.reduceLeDiff, Nat.reduceMul, Nat.reduceSub, Int.reduceLE, Int.reduceLT, Int.reduceToNat, Int.reducePow, Int.reduceEq, htg.1, encL_ok', hle])
        have ho2 : (dropTag tg M' ++ [AObj.tail])[M.length + 1]? = some (.cells [V.int (-1), V.str f, .list tg (encL ((l.take i).map fun x => x.put n u))]) := at_app (dropTag_at htg ho)
        refine ⟨ho2, ?_⟩
        (refine DR_quiet [12] (by decide +kernel) (fun M_ hS_ => ?_) (fun K2 hK2 => ?_); (focus (simp only [go_sem, Nat.reduceEqDiff, Nat.reduceLT, Nat.reduceAdd, Nat.reduceLeDiff, Nat.reduceMul, Nat.reduceSub, Int.reduceLE, Int.reduceLT, Int.reduceToNat, Int.reducePow, Int.reduceEq, hS_, f7])); simp only [go_sem, Nat.reduceEqDiff, Nat.reduceLT, Nat.reduceAdd, Nat.reduceLeDiff, Nat.reduceMul, Nat.reduceSub, Int.reduceLE, Int.reduceLT, Int.reduceToNat, Int.reducePow, Int.reduceEq, f7]; refine hK2 _ ?_; clear hK2)
        (refine DR_last' 13 (by decide +kernel) (by decide +kernel) (by decide +kernel) (by simp only [go_sem, Nat.reduceEqDiff, Nat.reduceLT, Nat.reduceAdd, Nat.reduceLeDiff, Nat.reduceMul, Nat.reduceSub, Int.reduceLE, Int.reduceLT, Int.reduceToNat, Int.reducePow, Int.reduceEq, ho2]) ?_; simp only [go_sem, Nat.reduceEqDiff, Nat.reduceLT, Nat.reduceAdd, Nat.reduceLeDiff, Nat.reduceMul, Nat.reduceSub, Int.reduceLE, Int.reduceLT, Int.reduceToNat, Int.reducePow, Int.reduceEq, ho2]; refine hK _ _ ?_; clear hK)
        (repeat (first | refine W_seq ?_ | refine W_block ?_ | refine W_blk ?_ | refine W_skip ?_ | (refine W_region [] (by rfl) fun K hK => ?_; simp only [go_sem, Nat.reduceEqDiff, Nat.reduceLT, Nat.reduceAdd, Nat.reduceLeDiff, Nat.reduceMul, Nat.reduceSub, Int.reduceLE, Int.reduceLT, Int.reduceToNat, Int.reducePow, Int.reduceEq, f8, hw]; refine WRun.done _ _ (hK _ _ ?_); clear hK)))
        have hx2 := (dropTag_ext hx htg).app [AObj.tail]
        refine W_stop ⟨i + 1, ⟨hlt, ?_, ?_, ?_, ?_, ?_, ?_, ⟨a, b, c, ?_⟩, hx2.set (by omega) _, .own M'.length, ?_, ?_⟩, by omega⟩
        · simp only [go_sem, Nat.reduceEqDiff, Nat.reduceLT, Nat.reduceAdd, Nat.reduceLeDiff, Nat.reduceMul, Nat.reduceSub, Int.reduceLE, Int.reduceLT, Int.reduceToNat, Int.reducePow, Int.reduceEq, f1]
        · simp only [go_sem, Nat.reduceEqDiff, Nat.reduceLT, Nat.reduceAdd, Nat.reduceLeDiff, Nat.reduceMul, Nat.reduceSub, Int.reduceLE, Int.reduceLT, Int.reduceToNat, Int.reducePow, Int.reduceEq, f3]
        · simp only [go_sem, Nat.reduceEqDiff, Nat.reduceLT, Nat.reduceAdd, Nat.reduceLeDiff, Nat.reduceMul, Nat.reduceSub, Int.reduceLE, Int.reduceLT, Int.reduceToNat, Int.reducePow, Int.reduceEq, f5]
        · simp only [go_sem, Nat.reduceEqDiff, Nat.reduceLT, Nat.reduceAdd, Nat.reduceLeDiff, Nat.reduceMul, Nat.reduceSub, Int.reduceLE, Int.reduceLT, Int.reduceToNat, Int.reducePow, Int.reduceEq, f6]
        · simp only [go_sem, Nat.reduceEqDiff, Nat.reduceLT, Nat.reduceAdd, Nat.reduceLeDiff, Nat.reduceMul, Nat.reduceSub, Int.reduceLE, Int.reduceLT, Int.reduceToNat, Int.reducePow, Int.reduceEq, f7]
        · simp only [go_sem, Nat.reduceEqDiff, Nat.reduceLT, Nat.reduceAdd, Nat.reduceLeDiff, Nat.reduceMul, Nat.reduceSub, Int.reduceLE, Int.reduceLT, Int.reduceToNat, Int.reducePow, Int.reduceEq]
        · rw [List.getElem?_set_ne (by omega)]; exact at_app (dropTag_at htg hq)
        · rw [← dropTag_length tg M']
          exact (TgIn.new M.length (dropTag tg M') (by rw [dropTag_length]; exact hx.1)).set ho2
        · rw [List.getElem?_set_self (List.getElem?_eq_some_iff.1 ho2).1, List.take_add_one, hxl]
          simp [encL_append, encL_cons, encL]
      · have hii : i = l.length := by omega
        subst hii
        (repeat (first | refine W_seq ?_ | refine W_block ?_ | refine W_blk ?_ | refine W_skip ?_ | (refine W_region [] (by rfl) fun K hK => ?_; simp only [go_sem, Nat.reduceEqDiff, Nat.reduceLT, Nat.reduceAdd, Nat.reduceLeDiff, Nat.reduceMul, Nat.reduceSub, Int.reduceLE, Int.reduceLT, Int.reduceToNat, Int.reducePow, Int.reduceEq, f3, f8, Int.lt_irrefl]; refine WRun.done _ _ (hK _ _ ?_); clear hK)))
        refine W_cond_false (by simp only [go_sem, Nat.reduceEqDiff, Nat.reduceLT, Nat.reduceAdd, Nat.reduceLeDiff, Nat.reduceMul, Nat.reduceSub, Int.reduceLE, Int.reduceLT, Int.reduceToNat, Int.reducePow, Int.reduceEq]) ?_
        refine W_exit (Qof_code (Qof_stop (Qof_blk_same ?_)))
        (repeat (first | refine W_seq ?_ | refine W_block ?_ | refine W_blk ?_ | refine W_skip ?_ | (refine W_region [] (by rfl) fun K hK => ?_; simp only [go_sem, Nat.reduceEqDiff, Nat.reduceLT, Nat.reduceAdd, Nat.reduceLeDiff, Nat.reduceMul, Nat.reduceSub, Int.reduceLE, Int.reduceLT, Int.reduceToNat, Int.reducePow, Int.reduceEq, f6, f7, hq, ho]; refine WRun.done _ _ (hK _ _ ?_); clear hK)))
        have h3 := List.getElem?_set_self (a := AObj.cells [V.int (-1), V.str f, .list tg (encL ((l.take l.length).map fun x => x.put n u))]) (List.getElem?_eq_some_iff.1 hq).1
        have h4 := (hx.set (Nat.le_refl _) (.cells [V.int (-1), V.str f, .list tg (encL ((l.take l.length).map fun x => x.put n u))])).out
        refine W_ret ?_
        simp only [go_sem, Nat.reduceEqDiff, Nat.reduceLT, Nat.reduceAdd, Nat.reduceLeDiff, Nat.reduceMul, Nat.reduceSub, Int.reduceLE, Int.reduceLT, Int.reduceToNat, Int.reducePow, Int.reduceEq, f6, h3]
        refine ⟨?_, h4⟩
        rw [put_app]
        simp only [go_sem, Nat.reduceEqDiff, Nat.reduceLT, Nat.reduceAdd, Nat.reduceLeDiff, Nat.reduceMul, Nat.reduceSub, Int.reduceLE, Int.reduceLT, Int.reduceToNat, Int.reducePow, Int.reduceEq, List.take_length]
        rfl
end Go.Ax

/- The program's own text of a type. Conditions: none. -/
import Derived.Test.YtfpmohmhiecjfaaDoorUnE
set_option linter.unusedSimpArgs false
set_option linter.unusedVariables false
namespace Go.Ax
open Go.Proofs Go.Uni

theorem toL_app (a b : ByteArray) : (a ++ b).data.toList = a.data.toList ++ b.data.toList := by simp
theorem txtL_list : ∀ (l : List Ty) (s : ByteArray), (txtL l s).data.toList = s.data.toList ++ Lib.joinTail [32] (l.map fun x => (txt x).data.toList)
  | [], s => by simp [txtL, Lib.joinTail]
  | x :: l, s => by rw [txtL, txtL_list l]; simp [Lib.joinTail]
theorem txt_join (f : ByteArray) (l : List Ty) (h : 0 < l.length) : ⟨#[40]⟩ ++ joined (f :: l.map txt) ⟨#[32]⟩ ++ ⟨#[41]⟩ = txt (.app f l) := by
  rw [txt_app f l h]
  congr 1
  refine bytes_eq ?_
  rw [toL_app, txtL_list, toL_app, joined]
  simp only [List.map_cons, Lib.join_cons, List.map_map]
  simp [Function.comp_def]
theorem joined_size (f : ByteArray) (l : List Ty) (hf : f.size ≤ 10) (hl : ∀ x ∈ l, Sm x) : (Lib.join ((f :: l.map txt).map (·.data.toList)) [32]).length ≤ 10 + 15 * Ty.sizeL l := by
  have h1 := txtL_size (l := l) (s := f) (SmL_iff.2 hl)
  have h2 := txtL_list l f
  rw [List.map_cons, Lib.join_cons, List.map_map]
  have h3 := congrArg List.length h2
  simp only [ByteArray.size] at h1 hf
  rw [Array.length_toList] at h3
  have h4 : ((fun x : ByteArray => x.data.toList) ∘ txt) = fun x => (txt x).data.toList := rfl
  rw [h4]
  rw [← h3]
  omega
theorem joined_sz (xs : List ByteArray) (sep : ByteArray) : (joined xs sep).size = (Lib.join (xs.map (·.data.toList)) sep.data.toList).length := by simp [joined, ByteArray.size]
theorem Tab.ext {M M' : AMem} (h : Tab M) (hx : Ext M M') : Tab M' := by
  obtain ⟨g, T, z, h1, h2⟩ := h
  exact ⟨g, T, z, h1, by rw [hx.2 0 (List.getElem?_eq_some_iff.1 h2).1]; exact h2⟩
theorem strs_ok (l : List ByteArray) : (∀ x, x ∈ l.map V.str → x.cells.length = 1) = True := by
  refine eq_true fun x hx => ?_
  obtain ⟨y, _, rfl⟩ := List.mem_map.1 hx
  rfl
theorem unL_strs (l : List ByteArray) : V.unL (l.map V.str) = l.map V.str := by rw [V.unL_eq, List.map_map]; rfl

set_option maxHeartbeats 4000000 in
theorem utext_ok : ∀ (N : Nat) (t : Ty), t.size ≤ N → Ar t → Sm t → t.size ≤ 1099511627776 → ∀ M, ((∀ n ∈ t.vars, n < 100) ∨ Tab M) → ACalls Tryd.prog 25 [enc t] M (fun v M' => v = V.str (txt t) ∧ M' = M)
  | 0, t, h, _, _, _, _, _ => by cases t <;> simp [Ty.size] at h
  | N + 1, t, h, hA, hS, hz, M, hT => by
    refine ACalls.shrink (R := fun v M' => v = V.str (txt t) ∧ Ext M M') ?_ ?_
    · refine acalls_enter [.tmp 2] 39 Tryd.func25 rfl rfl rfl (by simp) ?_
      have hsz := txt_size hS
      cases t with
      | var v =>
        have h0 : (0 : Int) ≤ (v : Int) := Int.natCast_nonneg v
        (repeat (first | refine W_seq ?_ | refine W_block ?_ | refine W_blk ?_ | refine W_skip ?_ | (refine W_region [1] (by rfl) fun K hK => ?_; simp only [go_sem, Nat.reduceEqDiff, Nat.reduceLT, Nat.reduceAdd, Nat.reduceLeDiff, Nat.reduceMul, Nat.reduceSub, Int.reduceLE, Int.reduceLT, Int.reduceToNat, Int.reducePow, Int.reduceEq]; refine WRun.done _ _ (hK _ _ ?_); clear hK)))
        refine W_cond_true (by simp only [go_sem, Nat.reduceEqDiff, Nat.reduceLT, Nat.reduceAdd, Nat.reduceLeDiff, Nat.reduceMul, Nat.reduceSub, Int.reduceLE, Int.reduceLT, Int.reduceToNat, Int.reducePow, Int.reduceEq, h0]) ?_
        (repeat (first | refine W_seq ?_ | refine W_block ?_ | refine W_blk ?_ | refine W_skip ?_))
        (refine W_region [] (by rfl) fun K hK => ?_; simp only [go_sem, Nat.reduceEqDiff, Nat.reduceLT, Nat.reduceAdd, Nat.reduceLeDiff, Nat.reduceMul, Nat.reduceSub, Int.reduceLE, Int.reduceLT, Int.reduceToNat, Int.reducePow, Int.reduceEq])
        rw [Sm] at hS
        refine ACalls.use (itoa_ok v (by omega) M (hT.imp (fun h => h v (by simp [Ty.vars])) id)) (by simp only [go_sem, Nat.reduceEqDiff, Nat.reduceLT, Nat.reduceAdd, Nat.reduceLeDiff, Nat.reduceMul, Nat.reduceSub, Int.reduceLE, Int.reduceLT, Int.reduceToNat, Int.reducePow, Int.reduceEq]) ?_
        rintro r M' ⟨rfl, rfl⟩
        have h3 := num_size hS
        have h4 : (#[116] : Array UInt8).size + (num v).size ≤ 9223372036854775807 := by have : (#[116] : Array UInt8).size = 1 := rfl; omega
        simp only [go_sem, Nat.reduceEqDiff, Nat.reduceLT, Nat.reduceAdd, Nat.reduceLeDiff, Nat.reduceMul, Nat.reduceSub, Int.reduceLE, Int.reduceLT, Int.reduceToNat, Int.reducePow, Int.reduceEq, h4]
        (refine WRun.done _ _ (hK _ _ ?_); clear hK)
        refine W_ret ?_
        simp only [go_sem, Nat.reduceEqDiff, Nat.reduceLT, Nat.reduceAdd, Nat.reduceLeDiff, Nat.reduceMul, Nat.reduceSub, Int.reduceLE, Int.reduceLT, Int.reduceToNat, Int.reducePow, Int.reduceEq, txt]
        exact Ext.refl _
      | app f l =>
        rw [Ar_app] at hA
        rw [Sm_app] at hS
        rw [Ty.size] at hz
        (repeat (first | refine W_seq ?_ | refine W_block ?_ | refine W_blk ?_ | refine W_skip ?_ | (refine W_region [1] (by rfl) fun K hK => ?_; simp only [go_sem, Nat.reduceEqDiff, Nat.reduceLT, Nat.reduceAdd, Nat.reduceLeDiff, Nat.reduceMul, Nat.reduceSub, Int.reduceLE, Int.reduceLT, Int.reduceToNat, Int.reducePow, Int.reduceEq]; refine WRun.done _ _ (hK _ _ ?_); clear hK)))
        refine W_cond_false (by simp only [go_sem, Nat.reduceEqDiff, Nat.reduceLT, Nat.reduceAdd, Nat.reduceLeDiff, Nat.reduceMul, Nat.reduceSub, Int.reduceLE, Int.reduceLT, Int.reduceToNat, Int.reducePow, Int.reduceEq]) ?_
        (repeat (first | refine W_seq ?_ | refine W_block ?_ | refine W_blk ?_ | refine W_skip ?_ | (refine W_region [] (by rfl) fun K hK => ?_; simp only [go_sem, Nat.reduceEqDiff, Nat.reduceLT, Nat.reduceAdd, Nat.reduceLeDiff, Nat.reduceMul, Nat.reduceSub, Int.reduceLE, Int.reduceLT, Int.reduceToNat, Int.reducePow, Int.reduceEq]; refine WRun.done _ _ (hK _ _ ?_); clear hK)))
        by_cases hl : l = []
        · subst hl
          refine W_cond_true (by simp only [go_sem, Nat.reduceEqDiff, Nat.reduceLT, Nat.reduceAdd, Nat.reduceLeDiff, Nat.reduceMul, Nat.reduceSub, Int.reduceLE, Int.reduceLT, Int.reduceToNat, Int.reducePow, Int.reduceEq]) ?_
          (repeat (first | refine W_seq ?_ | refine W_block ?_ | refine W_blk ?_ | refine W_skip ?_ | (refine W_region [] (by rfl) fun K hK => ?_; simp only [go_sem, Nat.reduceEqDiff, Nat.reduceLT, Nat.reduceAdd, Nat.reduceLeDiff, Nat.reduceMul, Nat.reduceSub, Int.reduceLE, Int.reduceLT, Int.reduceToNat, Int.reducePow, Int.reduceEq]; refine WRun.done _ _ (hK _ _ ?_); clear hK)))
          refine W_ret ?_
          simp only [go_sem, Nat.reduceEqDiff, Nat.reduceLT, Nat.reduceAdd, Nat.reduceLeDiff, Nat.reduceMul, Nat.reduceSub, Int.reduceLE, Int.reduceLT, Int.reduceToNat, Int.reducePow, Int.reduceEq, txt]
          exact Ext.refl _
        · have hl0 : 0 < l.length := List.length_pos_iff.2 hl
          have hl1 : ¬ ((l.length : Int) = 0) := by omega
          refine W_cond_false (by simp only [go_sem, Nat.reduceEqDiff, Nat.reduceLT, Nat.reduceAdd, Nat.reduceLeDiff, Nat.reduceMul, Nat.reduceSub, Int.reduceLE, Int.reduceLT, Int.reduceToNat, Int.reducePow, Int.reduceEq, hl1]) ?_
          (repeat (first | refine W_seq ?_ | refine W_block ?_ | refine W_blk ?_ | refine W_skip ?_ | (refine W_region [] (by rfl) fun K hK => ?_; simp only [go_sem, Nat.reduceEqDiff, Nat.reduceLT, Nat.reduceAdd, Nat.reduceLeDiff, Nat.reduceMul, Nat.reduceSub, Int.reduceLE, Int.reduceLT, Int.reduceToNat, Int.reducePow, Int.reduceEq]; refine WRun.done _ _ (hK _ _ ?_); clear hK)))
          refine W_loop (α := Nat) (fun i F' M' => i ≤ l.length ∧ Ext M M' ∧ look F' 23 = .list .dull (encL l) ∧ look F' 24 = V.int l.length ∧ look F' 25 = V.int i ∧ ∃ tg, TgIn M.length tg M' ∧ look F' 3 = .list tg ((f :: (l.take i).map txt).map V.str))
            (fun i => l.length - i) 0 ⟨Nat.zero_le _, Ext.refl _, ?_, ?_, ?_, .full, .full _ _, ?_⟩ ?_
          · simp only [go_sem, Nat.reduceEqDiff, Nat.reduceLT, Nat.reduceAdd, Nat.reduceLeDiff, Nat.reduceMul, Nat.reduceSub, Int.reduceLE, Int.reduceLT, Int.reduceToNat, Int.reducePow, Int.reduceEq]
          · simp only [go_sem, Nat.reduceEqDiff, Nat.reduceLT, Nat.reduceAdd, Nat.reduceLeDiff, Nat.reduceMul, Nat.reduceSub, Int.reduceLE, Int.reduceLT, Int.reduceToNat, Int.reducePow, Int.reduceEq]
          · simp only [go_sem, Nat.reduceEqDiff, Nat.reduceLT, Nat.reduceAdd, Nat.reduceLeDiff, Nat.reduceMul, Nat.reduceSub, Int.reduceLE, Int.reduceLT, Int.reduceToNat, Int.reducePow, Int.reduceEq]
          · simp only [go_sem, Nat.reduceEqDiff, Nat.reduceLT, Nat.reduceAdd, Nat.reduceLeDiff, Nat.reduceMul, Nat.reduceSub, Int.reduceLE, Int.reduceLT, Int.reduceToNat, Int.reducePow, Int.reduceEq]
          rintro i F' M' ⟨hi, hx, f23, f24, f25, tg, htg, f3⟩
          by_cases hlt : i < l.length
          · have hlt' : (i : Int) < (l.length : Int) := by omega
            have hw : IntKind.i64.wrap ((i : Int) + 1) = ((i + 1 : Nat) : Int) := by rw [wrapI _ (by omega) (by omega)]; omega
            obtain ⟨x, hxl⟩ : ∃ x, l[i]? = some x := ⟨l[i], by simp [hlt]⟩
            have hxm : x ∈ l := List.mem_of_getElem? hxl
            have hat := encL_at hxl
            have hxs := mem_size hxm
            (repeat (first | refine W_seq ?_ | refine W_block ?_ | refine W_blk ?_ | refine W_skip ?_ | (refine W_region [] (by rfl) fun K hK => ?_; simp only [go_sem, Nat.reduceEqDiff, Nat.reduceLT, Nat.reduceAdd, Nat.reduceLeDiff, Nat.reduceMul, Nat.reduceSub, Int.reduceLE, Int.reduceLT, Int.reduceToNat, Int.reducePow, Int.reduceEq, f24, f25, hlt']; refine WRun.done _ _ (hK _ _ ?_); clear hK)))
            refine W_cond_true (by simp only [go_sem, Nat.reduceEqDiff, Nat.reduceLT, Nat.reduceAdd, Nat.reduceLeDiff, Nat.reduceMul, Nat.reduceSub, Int.reduceLE, Int.reduceLT, Int.reduceToNat, Int.reducePow, Int.reduceEq]) ?_
            (repeat (first | refine W_seq ?_ | refine W_block ?_ | refine W_blk ?_ | refine W_skip ?_))
            (refine W_region [] (by rfl) fun K hK => ?_; simp only [go_sem, Nat.reduceEqDiff, Nat.reduceLT, Nat.reduceAdd, Nat.reduceLeDiff, Nat.reduceMul, Nat.reduceSub, Int.reduceLE, Int.reduceLT, Int.reduceToNat, Int.reducePow, Int.reduceEq, f23, f25, hat, Int.natCast_nonneg, Int.toNat_natCast])
            (refine WRun.done _ _ (hK _ _ ?_); clear hK)
            (repeat (first | refine W_seq ?_ | refine W_block ?_ | refine W_blk ?_ | refine W_skip ?_))
            (refine W_region [] (by rfl) fun K hK => ?_; simp only [go_sem, Nat.reduceEqDiff, Nat.reduceLT, Nat.reduceAdd, Nat.reduceLeDiff, Nat.reduceMul, Nat.reduceSub, Int.reduceLE, Int.reduceLT, Int.reduceToNat, Int.reducePow, Int.reduceEq, f3])
            refine ACalls.use (utext_ok N x (by have := app_size (f := f) hxm; omega) (hA.2 x hxm) (hS.2 x hxm) (by omega) _ (hT.imp (fun h n hn => h n (Ty.mem_varsL.2 ⟨x, hxm, hn⟩)) (fun h => h.ext (hx.app _)))) (by simp only [go_sem, Nat.reduceEqDiff, Nat.reduceLT, Nat.reduceAdd, Nat.reduceLeDiff, Nat.reduceMul, Nat.reduceSub, Int.reduceLE, Int.reduceLT, Int.reduceToNat, Int.reducePow, Int.reduceEq, enc_eq]) ?_
            rintro r M2 ⟨rfl, rfl⟩
            have hle : (List.take i l).length ≤ 1073741822 := by rw [List.length_take]; omega
            have htg2 := htg.app [AObj.cells [V.int (hd x), V.str (nm x), V.list Tag.dull (encL (ar x))]]
            simp only [go_sem, Nat.reduceEqDiff, Nat.reduceLT, Nat.reduceAdd, Nat.reduceLeDiff, Nat.reduceMul, Nat.reduceSub, Int.reduceLE, Int.reduceLT, Int.reduceToNat, Int.reducePow, Int.reduceEq, f3, htg2.1, hle]
            (refine WRun.done _ _ (hK _ _ ?_); clear hK)
            (repeat (first | refine W_seq ?_ | refine W_block ?_ | refine W_blk ?_ | refine W_skip ?_ | (refine W_region [] (by rfl) fun K hK => ?_; simp only [go_sem, Nat.reduceEqDiff, Nat.reduceLT, Nat.reduceAdd, Nat.reduceLeDiff, Nat.reduceMul, Nat.reduceSub, Int.reduceLE, Int.reduceLT, Int.reduceToNat, Int.reducePow, Int.reduceEq, f25, hw]; refine WRun.done _ _ (hK _ _ ?_); clear hK)))
            have hx2 := (dropTag_ext (hx.app [AObj.cells [V.int (hd x), V.str (nm x), V.list Tag.dull (encL (ar x))]]) htg2).app [AObj.tail]
            refine W_stop ⟨i + 1, ⟨hlt, hx2, ?_, ?_, ?_, .own (M'.length + 1), ?_, ?_⟩, by omega⟩
            · simp only [go_sem, Nat.reduceEqDiff, Nat.reduceLT, Nat.reduceAdd, Nat.reduceLeDiff, Nat.reduceMul, Nat.reduceSub, Int.reduceLE, Int.reduceLT, Int.reduceToNat, Int.reducePow, Int.reduceEq, f23]
            · simp only [go_sem, Nat.reduceEqDiff, Nat.reduceLT, Nat.reduceAdd, Nat.reduceLeDiff, Nat.reduceMul, Nat.reduceSub, Int.reduceLE, Int.reduceLT, Int.reduceToNat, Int.reducePow, Int.reduceEq, f24]
            · simp only [go_sem, Nat.reduceEqDiff, Nat.reduceLT, Nat.reduceAdd, Nat.reduceLeDiff, Nat.reduceMul, Nat.reduceSub, Int.reduceLE, Int.reduceLT, Int.reduceToNat, Int.reducePow, Int.reduceEq]
            · have hl3 : (dropTag tg (M' ++ [AObj.cells [V.int (hd x), V.str (nm x), V.list Tag.dull (encL (ar x))]])).length = M'.length + 1 := by rw [dropTag_length]; simp
              rw [← hl3]
              exact TgIn.new _ _ (by rw [hl3]; have := hx.1; omega)
            · simp only [go_sem, Nat.reduceEqDiff, Nat.reduceLT, Nat.reduceAdd, Nat.reduceLeDiff, Nat.reduceMul, Nat.reduceSub, Int.reduceLE, Int.reduceLT, Int.reduceToNat, Int.reducePow, Int.reduceEq]
              rw [List.take_add_one, hxl]
              simp
          · have hii : i = l.length := by omega
            subst hii
            rw [List.take_length] at f3
            (repeat (first | refine W_seq ?_ | refine W_block ?_ | refine W_blk ?_ | refine W_skip ?_ | (refine W_region [] (by rfl) fun K hK => ?_; simp only [go_sem, Nat.reduceEqDiff, Nat.reduceLT, Nat.reduceAdd, Nat.reduceLeDiff, Nat.reduceMul, Nat.reduceSub, Int.reduceLE, Int.reduceLT, Int.reduceToNat, Int.reducePow, Int.reduceEq, f24, f25, Int.lt_irrefl]; refine WRun.done _ _ (hK _ _ ?_); clear hK)))
            refine W_cond_false (by simp only [go_sem, Nat.reduceEqDiff, Nat.reduceLT, Nat.reduceAdd, Nat.reduceLeDiff, Nat.reduceMul, Nat.reduceSub, Int.reduceLE, Int.reduceLT, Int.reduceToNat, Int.reducePow, Int.reduceEq]) ?_
            refine W_exit (Qof_code (Qof_stop (Qof_blk_same ?_)))
            have hj := joined_size f l hS.1 hS.2
            (repeat (first | refine W_seq ?_ | refine W_block ?_ | refine W_blk ?_ | refine W_skip ?_))
            (refine W_region [] (by rfl) fun K hK => ?_; simp only [go_sem, Nat.reduceEqDiff, Nat.reduceLT, Nat.reduceAdd, Nat.reduceLeDiff, Nat.reduceMul, Nat.reduceSub, Int.reduceLE, Int.reduceLT, Int.reduceToNat, Int.reducePow, Int.reduceEq, f3])
            refine PCalls.use (join_ok (f :: l.map txt) ⟨#[32]⟩ (by simp; omega) (by exact Nat.le_trans hj (by omega))) (by simp only [go_sem, Nat.reduceEqDiff, Nat.reduceLT, Nat.reduceAdd, Nat.reduceLeDiff, Nat.reduceMul, Nat.reduceSub, Int.reduceLE, Int.reduceLT, Int.reduceToNat, Int.reducePow, Int.reduceEq, unL_strs]) ?_
            have hj2 : (joined (f :: l.map txt) ⟨#[32]⟩).size ≤ 10 + 15 * Ty.sizeL l := by rw [joined_sz]; exact hj
            have h5 : (#[40] : Array UInt8).size + (joined (f :: l.map txt) ⟨#[32]⟩).size ≤ 9223372036854775807 := by have : (#[40] : Array UInt8).size = 1 := rfl; omega
            have h6 : (#[40] : Array UInt8).size + (joined (f :: l.map txt) ⟨#[32]⟩).size + (#[41] : Array UInt8).size ≤ 9223372036854775807 := by have : (#[40] : Array UInt8).size = 1 := rfl; have : (#[41] : Array UInt8).size = 1 := rfl; omega
            simp only [go_sem, Nat.reduceEqDiff, Nat.reduceLT, Nat.reduceAdd, Nat.reduceLeDiff, Nat.reduceMul, Nat.reduceSub, Int.reduceLE, Int.reduceLT, Int.reduceToNat, Int.reducePow, Int.reduceEq, h5, h6]
            (refine WRun.done _ _ (hK _ _ ?_); clear hK)
            refine W_ret ?_
            simp only [go_sem, Nat.reduceEqDiff, Nat.reduceLT, Nat.reduceAdd, Nat.reduceLeDiff, Nat.reduceMul, Nat.reduceSub, Int.reduceLE, Int.reduceLT, Int.reduceToNat, Int.reducePow, Int.reduceEq]
            exact ⟨congrArg V.str (txt_join f l hl0), hx⟩
    · rintro v M' ⟨rfl, hx⟩
      obtain ⟨L, rfl⟩ := hx.out
      exact ⟨_, M, L, rfl, Nat.le_refl _, .inl rfl, rfl, fun o ho => .inl ho, rfl, rfl⟩
end Go.Ax

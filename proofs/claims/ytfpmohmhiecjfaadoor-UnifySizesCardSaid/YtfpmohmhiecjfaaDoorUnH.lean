/- A type with what its variables stand for. Conditions: none. -/
import Derived.Test.YtfpmohmhiecjfaaDoorUnG
set_option linter.unusedSimpArgs false
set_option linter.unusedVariables false
namespace Go.Ax
open Go.Proofs Go.Uni

theorem sub_app {m : Nat → Ty} (f : ByteArray) (l : List Ty) : (Ty.app f l).sub m = .app f (l.map (Ty.sub m)) := by rw [Ty.sub, Ty.subL_eq]
theorem size_pos (t : Ty) : 0 < t.size := by cases t <;> simp [Ty.size] <;> omega

set_option maxHeartbeats 8000000 in
theorem apply_ok {es : List (Value × V)} {s : Nat → Option Ty} {m : Nat → Ty} {r : Nat → Nat} (hs : SMap es s) (hm : Sbs s m r) (i : Nat) : ∀ (N : Nat) (t : Ty), (t.sub m).size ≤ N → Ar t → ∀ (M : AMem), M[i]? = some (.map es) →
    ACalls Tryd.prog 16 [.map i, enc t] M (fun v M' => v = enc (t.sub m) ∧ M' = M)
  | 0, t, h, _, _, _ => absurd h (by have := size_pos (t.sub m); omega)
  | N + 1, t, h, ht, M, hi => by
    refine ACalls.shrink (R := fun v M' => Ext M M' ∧ v.un = enc (t.sub m)) ?_ ?_
    · refine acalls_enter [.cell 4 30] 46 Tryd.func16 rfl rfl rfl (by simp) ?_
      have hil := (List.getElem?_eq_some_iff.1 hi).1
      (repeat (first | refine W_seq ?_ | refine W_block ?_ | refine W_blk ?_ | refine W_skip ?_ | (refine W_region [] (by rfl) fun K hK => ?_; simp only [go_sem, Nat.reduceEqDiff, Nat.reduceLT, Nat.reduceAdd, Nat.reduceLeDiff, Nat.reduceMul, Nat.reduceSub, Int.reduceLE, Int.reduceLT, Int.reduceToNat, Int.reducePow, Int.reduceEq]; refine WRun.done _ _ (hK _ _ ?_); clear hK)))
      refine W_loop (α := Ty) (fun t' F' M' => t'.sub m = t.sub m ∧ Ar t' ∧ Ext M M' ∧ look F' 0 = .map i ∧ look F' 3 = .ptr M.length 0 ∧ look F' 4 = .ptr (M.length + 1) 0 ∧ M'[M.length]? = some (.cells (enc t').cells) ∧ ∃ a b c, M'[M.length + 1]? = some (.cells [a, b, c]))
        (rk r) t ⟨rfl, ht, ?_, ?_, ?_, ?_, ?_, V.int 0, V.str ⟨#[]⟩, .list .full [], ?_⟩ ?_
      · exact ((Ext.refl M).app _).app _
      · simp only [go_sem, Nat.reduceEqDiff, Nat.reduceLT, Nat.reduceAdd, Nat.reduceLeDiff, Nat.reduceMul, Nat.reduceSub, Int.reduceLE, Int.reduceLT, Int.reduceToNat, Int.reducePow, Int.reduceEq]
      · simp only [go_sem, Nat.reduceEqDiff, Nat.reduceLT, Nat.reduceAdd, Nat.reduceLeDiff, Nat.reduceMul, Nat.reduceSub, Int.reduceLE, Int.reduceLT, Int.reduceToNat, Int.reducePow, Int.reduceEq]
      · simp only [go_sem, Nat.reduceEqDiff, Nat.reduceLT, Nat.reduceAdd, Nat.reduceLeDiff, Nat.reduceMul, Nat.reduceSub, Int.reduceLE, Int.reduceLT, Int.reduceToNat, Int.reducePow, Int.reduceEq]
      · rw [cells_enc]; exact at_app (at_snoc rfl)
      · exact at_snoc (by simp)
      rintro t' F' M' ⟨h1, h2, hx, f0, f3, f4, h3, a, b, c, h4⟩
      rw [cells_enc] at h3
      cases t' with
      | app f l =>
        rw [Ar_app] at h2
        rw [sub_app] at h1
        (repeat (first | refine W_seq ?_ | refine W_block ?_ | refine W_blk ?_ | refine W_skip ?_ | (refine W_region [] (by rfl) fun K hK => ?_; simp only [go_sem, Nat.reduceEqDiff, Nat.reduceLT, Nat.reduceAdd, Nat.reduceLeDiff, Nat.reduceMul, Nat.reduceSub, Int.reduceLE, Int.reduceLT, Int.reduceToNat, Int.reducePow, Int.reduceEq, f0, f3, h3]; refine WRun.done _ _ (hK _ _ ?_); clear hK)))
        refine W_cond_false (by simp only [go_sem, Nat.reduceEqDiff, Nat.reduceLT, Nat.reduceAdd, Nat.reduceLeDiff, Nat.reduceMul, Nat.reduceSub, Int.reduceLE, Int.reduceLT, Int.reduceToNat, Int.reducePow, Int.reduceEq]) ?_
        refine W_exit (Qof_code (Qof_stop (Qof_blk_same ?_)))
        have hsz : ∀ x ∈ l, (x.sub m).size ≤ N := fun x hxm => by
          have := app_size (f := f) (l := l.map (Ty.sub m)) (List.mem_map_of_mem (f := Ty.sub m) hxm)
          rw [h1] at this
          omega
        have hoM : M.length < M'.length := (List.getElem?_eq_some_iff.1 h3).1
        have h3' := at_app (Y := [AObj.cells [V.int (-1), V.str f, V.list Tag.full []]]) h3
        (repeat (first | refine W_seq ?_ | refine W_block ?_ | refine W_blk ?_ | refine W_skip ?_ | (refine W_region [] (by rfl) fun K hK => ?_; simp only [go_sem, Nat.reduceEqDiff, Nat.reduceLT, Nat.reduceAdd, Nat.reduceLeDiff, Nat.reduceMul, Nat.reduceSub, Int.reduceLE, Int.reduceLT, Int.reduceToNat, Int.reducePow, Int.reduceEq, f3, h3, h3']; refine WRun.done _ _ (hK _ _ ?_); clear hK)))
        refine W_loop (α := Nat) (fun j F'' M'' => j ≤ l.length ∧ look F'' 0 = .map i ∧ look F'' 4 = .ptr (M.length + 1) 0 ∧ look F'' 7 = .ptr M'.length 0 ∧ look F'' 30 = .list .dull (encL l) ∧ look F'' 31 = V.int l.length ∧ look F'' 32 = V.int j ∧ (∃ a b c, M''[M.length + 1]? = some (.cells [a, b, c])) ∧
          Ext M M'' ∧ ∃ tg, TgIn M.length tg M'' ∧ M''[M'.length]? = some (.cells [V.int (-1), V.str f, .list tg (encL ((l.take j).map (Ty.sub m)))])) (fun j => l.length - j) 0 ⟨Nat.zero_le _, ?_, ?_, ?_, ?_, ?_, ?_, ⟨a, b, c, at_app h4⟩, hx.app _, .full, .full _ _, ?_⟩ ?_
        · simp only [go_sem, Nat.reduceEqDiff, Nat.reduceLT, Nat.reduceAdd, Nat.reduceLeDiff, Nat.reduceMul, Nat.reduceSub, Int.reduceLE, Int.reduceLT, Int.reduceToNat, Int.reducePow, Int.reduceEq, f0]
        · simp only [go_sem, Nat.reduceEqDiff, Nat.reduceLT, Nat.reduceAdd, Nat.reduceLeDiff, Nat.reduceMul, Nat.reduceSub, Int.reduceLE, Int.reduceLT, Int.reduceToNat, Int.reducePow, Int.reduceEq, f4]
        · simp only [go_sem, Nat.reduceEqDiff, Nat.reduceLT, Nat.reduceAdd, Nat.reduceLeDiff, Nat.reduceMul, Nat.reduceSub, Int.reduceLE, Int.reduceLT, Int.reduceToNat, Int.reducePow, Int.reduceEq]
        · simp only [go_sem, Nat.reduceEqDiff, Nat.reduceLT, Nat.reduceAdd, Nat.reduceLeDiff, Nat.reduceMul, Nat.reduceSub, Int.reduceLE, Int.reduceLT, Int.reduceToNat, Int.reducePow, Int.reduceEq]
        · simp only [go_sem, Nat.reduceEqDiff, Nat.reduceLT, Nat.reduceAdd, Nat.reduceLeDiff, Nat.reduceMul, Nat.reduceSub, Int.reduceLE, Int.reduceLT, Int.reduceToNat, Int.reducePow, Int.reduceEq]
        · simp only [go_sem, Nat.reduceEqDiff, Nat.reduceLT, Nat.reduceAdd, Nat.reduceLeDiff, Nat.reduceMul, Nat.reduceSub, Int.reduceLE, Int.reduceLT, Int.reduceToNat, Int.reducePow, Int.reduceEq]
        · exact at_snoc rfl
        rintro j F'' M'' ⟨hj, g0, g4, g7, g30, g31, g32, ⟨a, b, c, k4⟩, hx2, tg, htg, ho⟩
        by_cases hlt : j < l.length
        · have hlt' : (j : Int) < (l.length : Int) := by omega
          have hw : IntKind.i64.wrap ((j : Int) + 1) = ((j + 1 : Nat) : Int) := by rw [wrapI _ (by omega) (by omega)]; omega
          obtain ⟨x, hxl⟩ : ∃ x, l[j]? = some x := ⟨l[j], by simp [hlt]⟩
          have hxm : x ∈ l := List.mem_of_getElem? hxl
          have hat := encL_at hxl
          (repeat (first | refine W_seq ?_ | refine W_block ?_ | refine W_blk ?_ | refine W_skip ?_ | (refine W_region [] (by rfl) fun K hK => ?_; simp only [go_sem, Nat.reduceEqDiff, Nat.reduceLT, Nat.reduceAdd, Nat.reduceLeDiff, Nat.reduceMul, Nat.reduceSub, Int.reduceLE, Int.reduceLT, Int.reduceToNat, Int.reducePow, Int.reduceEq, g31, g32, hlt']; refine WRun.done _ _ (hK _ _ ?_); clear hK)))
          refine W_cond_true (by simp only [go_sem, Nat.reduceEqDiff, Nat.reduceLT, Nat.reduceAdd, Nat.reduceLeDiff, Nat.reduceMul, Nat.reduceSub, Int.reduceLE, Int.reduceLT, Int.reduceToNat, Int.reducePow, Int.reduceEq]) ?_
          (repeat (first | refine W_seq ?_ | refine W_block ?_ | refine W_blk ?_ | refine W_skip ?_ | (refine W_region [] (by rfl) fun K hK => ?_; simp only [go_sem, Nat.reduceEqDiff, Nat.reduceLT, Nat.reduceAdd, Nat.reduceLeDiff, Nat.reduceMul, Nat.reduceSub, Int.reduceLE, Int.reduceLT, Int.reduceToNat, Int.reducePow, Int.reduceEq, g30, g32, hat, Int.natCast_nonneg, Int.toNat_natCast]; refine WRun.done _ _ (hK _ _ ?_); clear hK)))
          have ho2 := at_app (Y := [AObj.cells [V.int (hd x), V.str (nm x), V.list Tag.dull (encL (ar x))]]) ho
          have hx3 := hx2.app [AObj.cells [V.int (hd x), V.str (nm x), V.list Tag.dull (encL (ar x))]]
          have htg3 := htg.app [AObj.cells [V.int (hd x), V.str (nm x), V.list Tag.dull (encL (ar x))]]
          have hn3 : (M'' ++ [AObj.cells [V.int (hd x), V.str (nm x), V.list Tag.dull (encL (ar x))]])[M''.length]? = some (AObj.cells [V.int (hd x), V.str (nm x), V.list Tag.dull (encL (ar x))]) := at_snoc rfl
          have k43 := at_app (Y := [AObj.cells [V.int (hd x), V.str (nm x), V.list Tag.dull (encL (ar x))]]) k4
          generalize hM3 : M'' ++ [AObj.cells [V.int (hd x), V.str (nm x), V.list Tag.dull (encL (ar x))]] = M3 at ho2 hx3 htg3 hn3 k43 ⊢
          generalize hq : M''.length = q at hn3 ⊢
          have hi3 : M3[i]? = some (.map es) := by rw [hx3.2 i hil]; exact hi
          (refine W_draw [] (fun X => X[M'.length]? = some (.cells [V.int (-1), V.str f, .list tg (encL ((l.take j).map (Ty.sub m)))]) ∧ X[q]? = some (AObj.cells [V.int (hd x), V.str (nm x), V.list Tag.dull (encL (ar x))])) mixed_ (by rfl) ?_ fun K hK => ?_)
          · exact ⟨ho2, hn3⟩
          (refine DR_quiet [0, 1, 2, 3] (by decide +kernel) (fun M_ hS_ => ?_) (fun K2 hK2 => ?_); (focus (simp only [go_sem, Nat.reduceEqDiff, Nat.reduceLT, Nat.reduceAdd, Nat.reduceLeDiff, Nat.reduceMul, Nat.reduceSub, Int.reduceLE, Int.reduceLT, Int.reduceToNat, Int.reducePow, Int.reduceEq, hS_, ho2, hn3, g0, g7])); simp only [go_sem, Nat.reduceEqDiff, Nat.reduceLT, Nat.reduceAdd, Nat.reduceLeDiff, Nat.reduceMul, Nat.reduceSub, Int.reduceLE, Int.reduceLT, Int.reduceToNat, Int.reducePow, Int.reduceEq, ho2, hn3, g0, g7]; refine hK2 _ ?_; clear hK2)
          (refine DR_sole' 4 (by decide +kernel) (by simp only [go_sem, Nat.reduceEqDiff, Nat.reduceLT, Nat.reduceAdd, Nat.reduceLeDiff, Nat.reduceMul, Nat.reduceSub, Int.reduceLE, Int.reduceLT, Int.reduceToNat, Int.reducePow, Int.reduceEq]) ?_; simp only [go_sem, Nat.reduceEqDiff, Nat.reduceLT, Nat.reduceAdd, Nat.reduceLeDiff, Nat.reduceMul, Nat.reduceSub, Int.reduceLE, Int.reduceLT, Int.reduceToNat, Int.reducePow, Int.reduceEq])
          refine ACalls.at (apply_ok hs hm i N x (hsz x hxm) (h2.2 x hxm) M3 hi3) (by simp only [go_sem, Nat.reduceEqDiff, Nat.reduceLT, Nat.reduceAdd, Nat.reduceLeDiff, Nat.reduceMul, Nat.reduceSub, Int.reduceLE, Int.reduceLT, Int.reduceToNat, Int.reducePow, Int.reduceEq, enc_eq]) ?_
          rintro v Mv ⟨rfl, rfl⟩
          refine ⟨⟨ho2, hn3⟩, ?_⟩
          (refine DR_quiet [5] (by decide +kernel) (fun M_ hS_ => ?_) (fun K2 hK2 => ?_); (focus (simp only [go_sem, Nat.reduceEqDiff, Nat.reduceLT, Nat.reduceAdd, Nat.reduceLeDiff, Nat.reduceMul, Nat.reduceSub, Int.reduceLE, Int.reduceLT, Int.reduceToNat, Int.reducePow, Int.reduceEq, hS_])); simp only [go_sem, Nat.reduceEqDiff, Nat.reduceLT, Nat.reduceAdd, Nat.reduceLeDiff, Nat.reduceMul, Nat.reduceSub, Int.reduceLE, Int.reduceLT, Int.reduceToNat, Int.reducePow, Int.reduceEq]; refine hK2 _ ?_; clear hK2)
          have hle : (l.take j).length ≤ 1073741823 := by rw [List.length_take]; omega
          (refine DR_sole' 6 (by decide +kernel) (by simp only [go_sem, Nat.reduceEqDiff, Nat.reduceLT, Nat.reduceAdd, Nat.reduceLeDiff, Nat.reduceMul, Nat.reduceSub, Int.reduceLE, Int.reduceLT, Int.reduceToNat, Int.reducePow, Int.reduceEq, htg3.1, encL_ok', hle]) ?_; simp only [go_sem, Nat.reduceEqDiff, Nat.reduceLT, Nat.reduceAdd, Nat.reduceLeDiff, Nat.reduceMul, Nat.reduceSub, Int.reduceLE, Int.reduceLT, Int.reduceToNat, Int.reducePow, Int.reduceEq, htg3.1, encL_ok', hle])
          have ho4 := at_app (Y := [AObj.tail]) (dropTag_at htg3 ho2)
          have hn4 := at_app (Y := [AObj.tail]) (dropTag_at htg3 hn3)
          refine ⟨⟨ho4, hn4⟩, ?_⟩
          (refine DR_quiet [7] (by decide +kernel) (fun M_ hS_ => ?_) (fun K2 hK2 => ?_); (focus (simp only [go_sem, Nat.reduceEqDiff, Nat.reduceLT, Nat.reduceAdd, Nat.reduceLeDiff, Nat.reduceMul, Nat.reduceSub, Int.reduceLE, Int.reduceLT, Int.reduceToNat, Int.reducePow, Int.reduceEq, hS_, g7])); simp only [go_sem, Nat.reduceEqDiff, Nat.reduceLT, Nat.reduceAdd, Nat.reduceLeDiff, Nat.reduceMul, Nat.reduceSub, Int.reduceLE, Int.reduceLT, Int.reduceToNat, Int.reducePow, Int.reduceEq, g7]; refine hK2 _ ?_; clear hK2)
          (refine DR_last' 8 (by decide +kernel) (by decide +kernel) (by decide +kernel) (by simp only [go_sem, Nat.reduceEqDiff, Nat.reduceLT, Nat.reduceAdd, Nat.reduceLeDiff, Nat.reduceMul, Nat.reduceSub, Int.reduceLE, Int.reduceLT, Int.reduceToNat, Int.reducePow, Int.reduceEq, ho4]) ?_; simp only [go_sem, Nat.reduceEqDiff, Nat.reduceLT, Nat.reduceAdd, Nat.reduceLeDiff, Nat.reduceMul, Nat.reduceSub, Int.reduceLE, Int.reduceLT, Int.reduceToNat, Int.reducePow, Int.reduceEq, ho4]; refine hK _ _ ?_; clear hK)
          (repeat (first | refine W_seq ?_ | refine W_block ?_ | refine W_blk ?_ | refine W_skip ?_ | (refine W_region [] (by rfl) fun K hK => ?_; simp only [go_sem, Nat.reduceEqDiff, Nat.reduceLT, Nat.reduceAdd, Nat.reduceLeDiff, Nat.reduceMul, Nat.reduceSub, Int.reduceLE, Int.reduceLT, Int.reduceToNat, Int.reducePow, Int.reduceEq, g32, hw]; refine WRun.done _ _ (hK _ _ ?_); clear hK)))
          have hx5 := ((dropTag_ext hx3 htg3).app [AObj.tail]).set (k := M'.length) (by omega) (.cells [V.int (-1), V.str f, .list (.own Mv.length) (encL ((l.take j).map (Ty.sub m)) ++ [enc (x.sub m)])])
          refine W_stop ⟨j + 1, ⟨hlt, ?_, ?_, ?_, ?_, ?_, ?_, ⟨a, b, c, ?_⟩, hx5, .own Mv.length, ?_, ?_⟩, by omega⟩
          · simp only [go_sem, Nat.reduceEqDiff, Nat.reduceLT, Nat.reduceAdd, Nat.reduceLeDiff, Nat.reduceMul, Nat.reduceSub, Int.reduceLE, Int.reduceLT, Int.reduceToNat, Int.reducePow, Int.reduceEq, g0]
          · simp only [go_sem, Nat.reduceEqDiff, Nat.reduceLT, Nat.reduceAdd, Nat.reduceLeDiff, Nat.reduceMul, Nat.reduceSub, Int.reduceLE, Int.reduceLT, Int.reduceToNat, Int.reducePow, Int.reduceEq, g4]
          · simp only [go_sem, Nat.reduceEqDiff, Nat.reduceLT, Nat.reduceAdd, Nat.reduceLeDiff, Nat.reduceMul, Nat.reduceSub, Int.reduceLE, Int.reduceLT, Int.reduceToNat, Int.reducePow, Int.reduceEq, g7]
          · simp only [go_sem, Nat.reduceEqDiff, Nat.reduceLT, Nat.reduceAdd, Nat.reduceLeDiff, Nat.reduceMul, Nat.reduceSub, Int.reduceLE, Int.reduceLT, Int.reduceToNat, Int.reducePow, Int.reduceEq, g30]
          · simp only [go_sem, Nat.reduceEqDiff, Nat.reduceLT, Nat.reduceAdd, Nat.reduceLeDiff, Nat.reduceMul, Nat.reduceSub, Int.reduceLE, Int.reduceLT, Int.reduceToNat, Int.reducePow, Int.reduceEq, g31]
          · simp only [go_sem, Nat.reduceEqDiff, Nat.reduceLT, Nat.reduceAdd, Nat.reduceLeDiff, Nat.reduceMul, Nat.reduceSub, Int.reduceLE, Int.reduceLT, Int.reduceToNat, Int.reducePow, Int.reduceEq]
          · rw [List.getElem?_set_ne (by have := (List.getElem?_eq_some_iff.1 h4).1; omega)]; exact at_app (dropTag_at htg3 k43)
          · have := (TgIn.new M.length (dropTag tg Mv) (by rw [dropTag_length]; exact hx3.1)).set (cs' := [V.int (-1), V.str f, .list (.own Mv.length) (encL ((l.take j).map (Ty.sub m)) ++ [enc (x.sub m)])]) ho4
            rw [dropTag_length] at this
            exact this
          · rw [List.getElem?_set_self (List.getElem?_eq_some_iff.1 ho4).1, List.take_add_one, hxl]
            simp [encL_append, encL_cons, encL]
        · have hii : j = l.length := by omega
          subst hii
          (repeat (first | refine W_seq ?_ | refine W_block ?_ | refine W_blk ?_ | refine W_skip ?_ | (refine W_region [] (by rfl) fun K hK => ?_; simp only [go_sem, Nat.reduceEqDiff, Nat.reduceLT, Nat.reduceAdd, Nat.reduceLeDiff, Nat.reduceMul, Nat.reduceSub, Int.reduceLE, Int.reduceLT, Int.reduceToNat, Int.reducePow, Int.reduceEq, g31, g32, Int.lt_irrefl]; refine WRun.done _ _ (hK _ _ ?_); clear hK)))
          refine W_cond_false (by simp only [go_sem, Nat.reduceEqDiff, Nat.reduceLT, Nat.reduceAdd, Nat.reduceLeDiff, Nat.reduceMul, Nat.reduceSub, Int.reduceLE, Int.reduceLT, Int.reduceToNat, Int.reducePow, Int.reduceEq]) ?_
          refine W_exit (Qof_code (Qof_stop (Qof_blk_same ?_)))
          (repeat (first | refine W_seq ?_ | refine W_block ?_ | refine W_blk ?_ | refine W_skip ?_ | (refine W_region [] (by rfl) fun K hK => ?_; simp only [go_sem, Nat.reduceEqDiff, Nat.reduceLT, Nat.reduceAdd, Nat.reduceLeDiff, Nat.reduceMul, Nat.reduceSub, Int.reduceLE, Int.reduceLT, Int.reduceToNat, Int.reducePow, Int.reduceEq, g4, g7, k4, ho]; refine WRun.done _ _ (hK _ _ ?_); clear hK)))
          have h5 := List.getElem?_set_self (a := AObj.cells [V.int (-1), V.str f, .list tg (encL ((l.take l.length).map (Ty.sub m)))]) (List.getElem?_eq_some_iff.1 k4).1
          have h6 := hx2.set (k := M.length + 1) (by omega) (.cells [V.int (-1), V.str f, .list tg (encL ((l.take l.length).map (Ty.sub m)))])
          refine W_ret ?_
          simp only [go_sem, Nat.reduceEqDiff, Nat.reduceLT, Nat.reduceAdd, Nat.reduceLeDiff, Nat.reduceMul, Nat.reduceSub, Int.reduceLE, Int.reduceLT, Int.reduceToNat, Int.reducePow, Int.reduceEq, g4, h5]
          refine ⟨h6, ?_⟩
          rw [← h1]
          simp only [go_sem, Nat.reduceEqDiff, Nat.reduceLT, Nat.reduceAdd, Nat.reduceLeDiff, Nat.reduceMul, Nat.reduceSub, Int.reduceLE, Int.reduceLT, Int.reduceToNat, Int.reducePow, Int.reduceEq, List.take_length]
          rfl
      | var n =>
        have h0 : (0 : Int) ≤ (n : Int) := Int.natCast_nonneg n
        have hg := hs.get n
        have hi2 : M'[i]? = some (.map es) := by rw [hx.2 i hil]; exact hi
        (repeat (first | refine W_seq ?_ | refine W_block ?_ | refine W_blk ?_ | refine W_skip ?_ | (refine W_region [] (by rfl) fun K hK => ?_; simp only [go_sem, Nat.reduceEqDiff, Nat.reduceLT, Nat.reduceAdd, Nat.reduceLeDiff, Nat.reduceMul, Nat.reduceSub, Int.reduceLE, Int.reduceLT, Int.reduceToNat, Int.reducePow, Int.reduceEq, f0, f3, h3]; refine WRun.done _ _ (hK _ _ ?_); clear hK)))
        refine W_cond_true (by simp only [go_sem, Nat.reduceEqDiff, Nat.reduceLT, Nat.reduceAdd, Nat.reduceLeDiff, Nat.reduceMul, Nat.reduceSub, Int.reduceLE, Int.reduceLT, Int.reduceToNat, Int.reducePow, Int.reduceEq, h0]) ?_
        cases hsn : s n with
        | none =>
          rw [hsn] at hg
          (repeat (first | refine W_seq ?_ | refine W_block ?_ | refine W_blk ?_ | refine W_skip ?_ | (refine W_region [] (by rfl) fun K hK => ?_; simp only [go_sem, Nat.reduceEqDiff, Nat.reduceLT, Nat.reduceAdd, Nat.reduceLeDiff, Nat.reduceMul, Nat.reduceSub, Int.reduceLE, Int.reduceLT, Int.reduceToNat, Int.reducePow, Int.reduceEq, f0, f3, h3, hi2, hg]; refine WRun.done _ _ (hK _ _ ?_); clear hK)))
          refine W_cond_true (by simp only [go_sem, Nat.reduceEqDiff, Nat.reduceLT, Nat.reduceAdd, Nat.reduceLeDiff, Nat.reduceMul, Nat.reduceSub, Int.reduceLE, Int.reduceLT, Int.reduceToNat, Int.reducePow, Int.reduceEq]) ?_
          have h3' := at_app (Y := [AObj.cells [V.int 0, V.str ⟨#[]⟩, V.list Tag.full []]]) h3
          have h4' := at_app (Y := [AObj.cells [V.int 0, V.str ⟨#[]⟩, V.list Tag.full []]]) h4
          (repeat (first | refine W_seq ?_ | refine W_block ?_ | refine W_blk ?_ | refine W_skip ?_))
          (refine W_region [] (by rfl) fun K hK => ?_; simp only [go_sem, Nat.reduceEqDiff, Nat.reduceLT, Nat.reduceAdd, Nat.reduceLeDiff, Nat.reduceMul, Nat.reduceSub, Int.reduceLE, Int.reduceLT, Int.reduceToNat, Int.reducePow, Int.reduceEq, f3, h3'])
          refine PCalls.use (var_ok (n : Int) (.var n) rfl (by simp)) (by simp only [go_sem, Nat.reduceEqDiff, Nat.reduceLT, Nat.reduceAdd, Nat.reduceLeDiff, Nat.reduceMul, Nat.reduceSub, Int.reduceLE, Int.reduceLT, Int.reduceToNat, Int.reducePow, Int.reduceEq]) ?_
          simp only [go_sem, Nat.reduceEqDiff, Nat.reduceLT, Nat.reduceAdd, Nat.reduceLeDiff, Nat.reduceMul, Nat.reduceSub, Int.reduceLE, Int.reduceLT, Int.reduceToNat, Int.reducePow, Int.reduceEq, f4, h4']
          (refine WRun.done _ _ (hK _ _ ?_); clear hK)
          have h5 := List.getElem?_set_self (a := AObj.cells (enc (.var n)).cells) (List.getElem?_eq_some_iff.1 h4').1
          have h6 := (hx.app [AObj.cells [V.int 0, V.str ⟨#[]⟩, V.list Tag.full []]]).set (k := M.length + 1) (by omega) (.cells (enc (.var n)).cells)
          rw [cells_enc] at h5 h6
          simp only [hd_var, nm_var, ar_var, encL_nil] at h5 h6
          refine W_ret ?_
          simp only [go_sem, Nat.reduceEqDiff, Nat.reduceLT, Nat.reduceAdd, Nat.reduceLeDiff, Nat.reduceMul, Nat.reduceSub, Int.reduceLE, Int.reduceLT, Int.reduceToNat, Int.reducePow, Int.reduceEq, f4, h5]
          refine ⟨h6, ?_⟩
          rw [← h1, Ty.sub, hm.un n hsn]; rfl
        | some u =>
          rw [hsn] at hg
          (repeat (first | refine W_seq ?_ | refine W_block ?_ | refine W_blk ?_ | refine W_skip ?_ | (refine W_region [] (by rfl) fun K hK => ?_; simp only [go_sem, Nat.reduceEqDiff, Nat.reduceLT, Nat.reduceAdd, Nat.reduceLeDiff, Nat.reduceMul, Nat.reduceSub, Int.reduceLE, Int.reduceLT, Int.reduceToNat, Int.reducePow, Int.reduceEq, f0, f3, h3, hi2, hg]; refine WRun.done _ _ (hK _ _ ?_); clear hK)))
          refine W_cond_false (by simp only [go_sem, Nat.reduceEqDiff, Nat.reduceLT, Nat.reduceAdd, Nat.reduceLeDiff, Nat.reduceMul, Nat.reduceSub, Int.reduceLE, Int.reduceLT, Int.reduceToNat, Int.reducePow, Int.reduceEq]) ?_
          have h3' : (M' ++ [AObj.cells [V.int (hd u), V.str (nm u), V.list Tag.dull (encL (ar u))]])[M.length]? = _ := at_app h3
          (repeat (first | refine W_seq ?_ | refine W_block ?_ | refine W_blk ?_ | refine W_skip ?_ | (refine W_region [] (by rfl) fun K hK => ?_; simp only [go_sem, Nat.reduceEqDiff, Nat.reduceLT, Nat.reduceAdd, Nat.reduceLeDiff, Nat.reduceMul, Nat.reduceSub, Int.reduceLE, Int.reduceLT, Int.reduceToNat, Int.reducePow, Int.reduceEq, f3, h3']; refine WRun.done _ _ (hK _ _ ?_); clear hK)))
          have hx2 := (hx.app [AObj.cells [V.int (hd u), V.str (nm u), V.list Tag.dull (encL (ar u))]]).set (Nat.le_refl M.length) (.cells [V.int (hd u), V.str (nm u), V.list Tag.dull (encL (ar u))])
          refine W_stop ⟨u, ⟨?_, hs.ar n u hsn, hx2, ?_, ?_, ?_, ?_, a, b, c, ?_⟩, ?_⟩
          · rw [← h1, Ty.sub]; exact (hm.bd n u hsn).symm
          · simp only [go_sem, Nat.reduceEqDiff, Nat.reduceLT, Nat.reduceAdd, Nat.reduceLeDiff, Nat.reduceMul, Nat.reduceSub, Int.reduceLE, Int.reduceLT, Int.reduceToNat, Int.reducePow, Int.reduceEq, f0]
          · simp only [go_sem, Nat.reduceEqDiff, Nat.reduceLT, Nat.reduceAdd, Nat.reduceLeDiff, Nat.reduceMul, Nat.reduceSub, Int.reduceLE, Int.reduceLT, Int.reduceToNat, Int.reducePow, Int.reduceEq, f3]
          · simp only [go_sem, Nat.reduceEqDiff, Nat.reduceLT, Nat.reduceAdd, Nat.reduceLeDiff, Nat.reduceMul, Nat.reduceSub, Int.reduceLE, Int.reduceLT, Int.reduceToNat, Int.reducePow, Int.reduceEq, f4]
          · rw [cells_enc]; exact List.getElem?_set_self (List.getElem?_eq_some_iff.1 h3').1
          · rw [List.getElem?_set_ne (by omega)]; exact at_app h4
          · have := hm.rank n u hsn
            cases u with
            | app f l => simp [rk]
            | var v => have := this v (by simp [Ty.vars]); simp [rk]; omega
    · rintro v M' ⟨hx, hv⟩
      obtain ⟨L, rfl⟩ := hx.out
      exact ⟨v.un, M, L, rfl, Nat.le_refl _, .inr rfl, by rw [hv]; exact V.ids_of_closed (enc_closed _), fun o ho => .inl ho, hv, rfl⟩
end Go.Ax

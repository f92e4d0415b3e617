import Derived.Test.YthbojmoiimknhaaSt5
set_option linter.unusedSimpArgs false
set_option linter.unusedVariables false
namespace Go.Ax
open Go.Proofs

def encL (fs : List Frm) : List Int := fs.flatMap Frm.enc
theorem encL_snoc (ps : List Frm) (f : Frm) : encL (ps ++ [f]) = encL ps ++ f.enc := by simp [encL]
theorem enc_length (f : Frm) : f.enc.length = f.l.length + 3 := by simp [Frm.enc]

/-- Trees that are these frames. -/
def IsFrs : List V → List Frm → Prop
  | [], [] => True
  | x :: xs, f :: fs => (∃ tg, x = f.V tg) ∧ IsFrs xs fs
  | _, _ => False

theorem IsFrs.snoc : ∀ {xs : List V} {fs : List Frm} {f : Frm} {tg : Tag}, IsFrs xs fs → IsFrs (xs ++ [f.V tg]) (fs ++ [f])
  | [], [], f, tg, _ => ⟨⟨tg, rfl⟩, trivial⟩
  | x :: xs, g :: fs, f, tg, h => ⟨h.1, h.2.snoc⟩
  | [], _ :: _, _, _, h => h.elim
  | _ :: _, [], _, _, h => h.elim
theorem IsFrs.length : ∀ {xs : List V} {fs : List Frm}, IsFrs xs fs → xs.length = fs.length
  | [], [], _ => rfl
  | x :: xs, g :: fs, h => by simp [h.2.length]
  | [], _ :: _, h => h.elim
  | _ :: _, [], h => h.elim
theorem IsFrs.cells : ∀ {xs : List V} {fs : List Frm}, IsFrs xs fs → ∀ x ∈ xs, x.cells.length = 4
  | [], [], _ => fun x hx => by cases hx
  | x :: xs, g :: fs, h => by
    obtain ⟨⟨tg, rfl⟩, h2⟩ := h
    intro y hy
    rcases List.mem_cons.1 hy with rfl | hy
    · rfl
    · exact h2.cells y hy
  | [], _ :: _, h => h.elim
  | _ :: _, [], h => h.elim

theorem StackAt.keeps {M M' : AMem} {i : Nat} {most : Int} {ws : List Int} {k : Option Nat} (h : StackAt M i most ws k) (hK : Keeps M M') : StackAt M' i most ws k := by
  refine ⟨?_, h.none, fun k' e => ?_⟩
  · rw [hK.2 i (List.getElem?_eq_some_iff.1 h.cells).1]; exact h.cells
  · obtain ⟨h1, cs, h2, h3⟩ := h.some k' e
    exact ⟨h1, cs, by rw [hK.2 k' (List.getElem?_eq_some_iff.1 h2).1]; exact h2, h3⟩

/-- A tag that may be used, of an object that came later than n. -/
def TagNew (n : Nat) (tg : Tag) (M : AMem) : Prop := tg = .full ∨ ∃ j, tg = .own j ∧ n ≤ j ∧ M[j]? = some .tail

theorem TagNew.ok {n : Nat} {tg : Tag} {M : AMem} (h : TagNew n tg M) : tagOk tg M = true := by
  rcases h with rfl | ⟨j, rfl, _, h⟩
  · rfl
  · simp [tagOk, h]

theorem TagNew.keeps {n : Nat} {tg : Tag} {M M' : AMem} (h : TagNew n tg M) (hK : Keeps M M') : TagNew n tg M' := by
  rcases h with rfl | ⟨j, rfl, h1, h⟩
  · exact .inl rfl
  · exact .inr ⟨j, rfl, h1, by rw [hK.2 j (List.getElem?_eq_some_iff.1 h).1]; exact h⟩

theorem dropTag_len (tg : Tag) (M : AMem) : (dropTag tg M).length = M.length := by cases tg <;> simp [dropTag]

/-- The memory's beginning stays when such a permission is used. -/
theorem TagNew.drop {M0 M : AMem} {tg : Tag} (h : TagNew M0.length tg M) (hK : Keeps M0 M) : Keeps M0 (dropTag tg M) := by
  rcases h with rfl | ⟨j, rfl, h1, h⟩
  · exact hK
  · refine ⟨by simp [dropTag, hK.1], fun i hi => ?_⟩
    rw [← hK.2 i hi]
    exact List.getElem?_set_ne (by omega)

theorem frames_ok (M : AMem) (i : Nat) (most : Int) (k : Option Nat) (fs : List Frm) (hS : StackAt M i most (encL fs) k) (hfs : ∀ f ∈ fs, f.ok) (hw : (encL fs).length ≤ 1000000) :
    ACalls Try.prog 20 [.ptr i 0] M (fun r M' => (∃ tg xs, r = .list tg xs ∧ IsFrs xs fs.reverse) ∧ Keeps M M') := by
  refine acalls_enter [.tmp 2] 23 Try.func20 rfl rfl rfl (by simp) ?_
  (repeat (first | refine W_seq ?_ | refine W_block ?_ | refine W_blk ?_ | refine W_skip ?_))
  (refine W_region [] (by rfl) fun K hK => ?_; simp only [go_sem, Nat.reduceEqDiff, Nat.reduceLT, Nat.reduceAdd, Nat.reduceLeDiff, Nat.reduceMul, Nat.reduceSub, Int.reduceLE, Int.reduceLT, Int.reduceToNat, Int.reducePow, Int.reduceEq])
  (refine WRun.done _ _ (hK _ _ ?_); clear hK)
  (repeat (first | refine W_seq ?_ | refine W_block ?_ | refine W_blk ?_ | refine W_skip ?_))
  (refine W_region [] (by rfl) fun K hK => ?_; simp only [go_sem, Nat.reduceEqDiff, Nat.reduceLT, Nat.reduceAdd, Nat.reduceLeDiff, Nat.reduceMul, Nat.reduceSub, Int.reduceLE, Int.reduceLT, Int.reduceToNat, Int.reducePow, Int.reduceEq])
  (refine WRun.done _ _ (hK _ _ ?_); clear hK)
  (repeat (first | refine W_seq ?_ | refine W_block ?_ | refine W_blk ?_ | refine W_skip ?_))
  (refine W_region [] (by rfl) fun K hK => ?_; simp only [go_sem, Nat.reduceEqDiff, Nat.reduceLT, Nat.reduceAdd, Nat.reduceLeDiff, Nat.reduceMul, Nat.reduceSub, Int.reduceLE, Int.reduceLT, Int.reduceToNat, Int.reducePow, Int.reduceEq])
  refine WRun.call _ _ _ _ _ _ _ (used_ok _ _ _ _ _ hS) ?_
  rintro r M ⟨rfl, rfl⟩
  simp only [go_sem, Nat.reduceEqDiff, Nat.reduceLT, Nat.reduceAdd, Nat.reduceLeDiff, Nat.reduceMul, Nat.reduceSub, Int.reduceLE, Int.reduceLT, Int.reduceToNat, Int.reducePow, Int.reduceEq]
  (refine WRun.done _ _ (hK _ _ ?_); clear hK)
  (repeat (first | refine W_seq ?_ | refine W_block ?_ | refine W_blk ?_ | refine W_skip ?_))
  refine W_loop (α := List Frm) (fun ps F M' => ∃ dn tg xs, fs = ps ++ dn ∧ look F 0 = .ptr i 0 ∧ look F 4 = V.int ((encL ps).length : Nat) ∧ look F 3 = .list tg xs ∧ IsFrs xs dn.reverse ∧ TagNew M.length tg M' ∧ Keeps M M') (fun ps => ps.length) fs
    ⟨[], .full, [], by simp, ?_, ?_, ?_, trivial, .inl rfl, Keeps.refl _⟩ ?_
  · simp only [go_sem, Nat.reduceEqDiff, Nat.reduceLT, Nat.reduceAdd, Nat.reduceLeDiff, Nat.reduceMul, Nat.reduceSub, Int.reduceLE, Int.reduceLT, Int.reduceToNat, Int.reducePow, Int.reduceEq]
  · simp only [go_sem, Nat.reduceEqDiff, Nat.reduceLT, Nat.reduceAdd, Nat.reduceLeDiff, Nat.reduceMul, Nat.reduceSub, Int.reduceLE, Int.reduceLT, Int.reduceToNat, Int.reducePow, Int.reduceEq]
  · simp only [go_sem, Nat.reduceEqDiff, Nat.reduceLT, Nat.reduceAdd, Nat.reduceLeDiff, Nat.reduceMul, Nat.reduceSub, Int.reduceLE, Int.reduceLT, Int.reduceToNat, Int.reducePow, Int.reduceEq]
  rintro ps F M' ⟨dn, tg, xs, hps, f0, f4, f3, hxs, htg, hK0⟩
  rcases List.eq_nil_or_concat ps with rfl | ⟨ps', f, rfl⟩
  · (repeat (first | refine W_seq ?_ | refine W_block ?_ | refine W_blk ?_ | refine W_skip ?_ | (refine W_region [] (by rfl) fun K hK => ?_; simp only [go_sem, Nat.reduceEqDiff, Nat.reduceLT, Nat.reduceAdd, Nat.reduceLeDiff, Nat.reduceMul, Nat.reduceSub, Int.reduceLE, Int.reduceLT, Int.reduceToNat, Int.reducePow, Int.reduceEq, f4, encL, List.flatMap_nil, List.length_nil]; refine WRun.done _ _ (hK _ _ ?_); clear hK)))
    refine W_cond_false (by simp only [go_sem, Nat.reduceEqDiff, Nat.reduceLT, Nat.reduceAdd, Nat.reduceLeDiff, Nat.reduceMul, Nat.reduceSub, Int.reduceLE, Int.reduceLT, Int.reduceToNat, Int.reducePow, Int.reduceEq]) ?_
    refine W_exit (Qof_code (Qof_stop (Qof_blk_same ?_)))
    (repeat (first | refine W_seq ?_ | refine W_block ?_ | refine W_blk ?_ | refine W_skip ?_ | (refine W_region [] (by rfl) fun K hK => ?_; simp only [go_sem, Nat.reduceEqDiff, Nat.reduceLT, Nat.reduceAdd, Nat.reduceLeDiff, Nat.reduceMul, Nat.reduceSub, Int.reduceLE, Int.reduceLT, Int.reduceToNat, Int.reducePow, Int.reduceEq, f3]; refine WRun.done _ _ (hK _ _ ?_); clear hK)))
    refine W_ret ?_
    simp only [go_sem, Nat.reduceEqDiff, Nat.reduceLT, Nat.reduceAdd, Nat.reduceLeDiff, Nat.reduceMul, Nat.reduceSub, Int.reduceLE, Int.reduceLT, Int.reduceToNat, Int.reducePow, Int.reduceEq]
    exact ⟨⟨tg, xs, rfl, by rw [hps]; exact hxs⟩, hK0⟩
  · rw [List.concat_eq_append] at hps f4
    have e1 : (((encL (ps' ++ [f])).length : Nat) : Int) = (((encL ps').length + f.l.length + 3 : Nat) : Int) := by rw [encL_snoc, List.length_append, enc_length]; omega
    rw [e1] at f4
    have hpos : (0 : Int) < (((encL ps').length + f.l.length + 3 : Nat) : Int) := by omega
    have hfo : f.ok := hfs f (by rw [hps]; simp)
    have hxl : xs.length ≤ 1000000 := by
      have h1 := hxs.length
      have h2 : fs.length ≤ (encL fs).length := by
        have : ∀ l : List Frm, l.length ≤ (encL l).length := by
          intro l
          induction l with
          | nil => simp
          | cons x l ih => simp only [encL, List.flatMap_cons, List.length_append, List.length_cons, enc_length] at *; omega
        exact this fs
      have h3 : dn.length ≤ fs.length := by rw [hps]; simp; omega
      simp at h1; omega
    (repeat (first | refine W_seq ?_ | refine W_block ?_ | refine W_blk ?_ | refine W_skip ?_ | (refine W_region [] (by rfl) fun K hK => ?_; simp only [go_sem, Nat.reduceEqDiff, Nat.reduceLT, Nat.reduceAdd, Nat.reduceLeDiff, Nat.reduceMul, Nat.reduceSub, Int.reduceLE, Int.reduceLT, Int.reduceToNat, Int.reducePow, Int.reduceEq, f4, hpos]; refine WRun.done _ _ (hK _ _ ?_); clear hK)))
    refine W_cond_true (by simp only [go_sem, Nat.reduceEqDiff, Nat.reduceLT, Nat.reduceAdd, Nat.reduceLeDiff, Nat.reduceMul, Nat.reduceSub, Int.reduceLE, Int.reduceLT, Int.reduceToNat, Int.reducePow, Int.reduceEq]) ?_
    (repeat (first | refine W_seq ?_ | refine W_block ?_ | refine W_blk ?_ | refine W_skip ?_))
    (refine W_region [] (by rfl) fun K hK => ?_; simp only [go_sem, Nat.reduceEqDiff, Nat.reduceLT, Nat.reduceAdd, Nat.reduceLeDiff, Nat.reduceMul, Nat.reduceSub, Int.reduceLE, Int.reduceLT, Int.reduceToNat, Int.reducePow, Int.reduceEq, f0, f4])
    refine WRun.call _ _ _ _ _ _ _ (top_ok _ i most (encL fs) k (hS.keeps hK0) (encL ps') (encL dn) f hfo (by rw [hps]; simp [encL]) hw) ?_
    rintro r M1 ⟨⟨tg1, rfl⟩, hK1⟩
    simp only [go_sem, Nat.reduceEqDiff, Nat.reduceLT, Nat.reduceAdd, Nat.reduceLeDiff, Nat.reduceMul, Nat.reduceSub, Int.reduceLE, Int.reduceLT, Int.reduceToNat, Int.reducePow, Int.reduceEq, Frm.V]
    (refine WRun.done _ _ (hK _ _ ?_); clear hK)
    have htg2 : TagNew M.length tg (M1 ++ [AObj.cells [V.int f.kind, V.int f.a, V.int f.b, V.list tg1 (List.map V.int f.l)]]) := (htg.keeps hK1).keeps (Keeps.append _ _)
    have hok := htg2.ok
    have hxc := eq_true hxs.cells
    have hx1 : xs.length + 1 ≤ 1073741824 := by omega
    (repeat (first | refine W_seq ?_ | refine W_block ?_ | refine W_blk ?_ | refine W_skip ?_))
    (refine W_region [] (by rfl) fun K hK => ?_; simp only [go_sem, Nat.reduceEqDiff, Nat.reduceLT, Nat.reduceAdd, Nat.reduceLeDiff, Nat.reduceMul, Nat.reduceSub, Int.reduceLE, Int.reduceLT, Int.reduceToNat, Int.reducePow, Int.reduceEq, f3, hok, hx1, hxc])
    (refine WRun.done _ _ (hK _ _ ?_); clear hK)
    (repeat (first | refine W_seq ?_ | refine W_block ?_ | refine W_blk ?_ | refine W_skip ?_ | (refine W_region [] (by rfl) fun K hK => ?_; simp only [go_sem, Nat.reduceEqDiff, Nat.reduceLT, Nat.reduceAdd, Nat.reduceLeDiff, Nat.reduceMul, Nat.reduceSub, Int.reduceLE, Int.reduceLT, Int.reduceToNat, Int.reducePow, Int.reduceEq]; refine WRun.done _ _ (hK _ _ ?_); clear hK)))
    have hlen2 := dropTag_len tg (M1 ++ [AObj.cells [V.int f.kind, V.int f.a, V.int f.b, V.list tg1 (List.map V.int f.l)]])
    refine W_stop ⟨ps', ⟨f :: dn, .own (M1.length + 1), xs ++ [f.V tg1], by rw [hps]; simp, ?_, ?_, ?_, ?_, ?_, ?_⟩, by simp⟩
    · simp only [go_sem, Nat.reduceEqDiff, Nat.reduceLT, Nat.reduceAdd, Nat.reduceLeDiff, Nat.reduceMul, Nat.reduceSub, Int.reduceLE, Int.reduceLT, Int.reduceToNat, Int.reducePow, Int.reduceEq, f0]
    · simp only [go_sem, Nat.reduceEqDiff, Nat.reduceLT, Nat.reduceAdd, Nat.reduceLeDiff, Nat.reduceMul, Nat.reduceSub, Int.reduceLE, Int.reduceLT, Int.reduceToNat, Int.reducePow, Int.reduceEq]
    · simp only [go_sem, Nat.reduceEqDiff, Nat.reduceLT, Nat.reduceAdd, Nat.reduceLeDiff, Nat.reduceMul, Nat.reduceSub, Int.reduceLE, Int.reduceLT, Int.reduceToNat, Int.reducePow, Int.reduceEq]; rfl
    · rw [List.reverse_cons]; exact hxs.snoc
    · refine .inr ⟨_, rfl, ?_, ?_⟩
      · have := hK0.1; have := hK1.1; omega
      · rw [List.getElem?_append_right (by rw [hlen2]; simp), hlen2]; simp
    · exact (htg2.drop ((hK0.trans hK1).trans (Keeps.append _ _))).trans (Keeps.append _ _)
end Go.Ax

import Derived.Test.YthbojmoiimknhaaSt7g
set_option linter.unusedSimpArgs false
set_option linter.unusedVariables false
namespace Go.Ax
open Go.Proofs

section
variable {σ γ : Type} {fid : FuncId} {caps : List V}

/-- How the memory stands in the midst of a Map. -/
structure MapG (C : Clo σ γ fid caps) (M : AMem) (g : γ) (i : Nat) (k : Option Nat) (s1 : σ) (g1 : γ) (M' : AMem) : Prop where
  inv : C.Inv s1 g1 M'
  len : M.length ≤ M'.length
  keep : ∀ j, j < M.length → k ≠ some j → ¬ C.Own g j → M'[j]? = M[j]?
  own : ∀ j, C.Own g1 j → C.Own g j ∨ M.length ≤ j

variable {C : Clo σ γ fid caps} {M : AMem} {g : γ} {i : Nat} {k : Option Nat} {s1 : σ} {g1 : γ} {M' M'' : AMem}

theorem MapG.not_own (h : MapG C M g i k s1 g1 M') {j : Nat} (hj : j < M.length) (hn : ¬ C.Own g j) : ¬ C.Own g1 j := fun ho => by
  rcases h.own j ho with h | h
  · exact hn h
  · omega

theorem MapG.keeps (h : MapG C M g i k s1 g1 M') (hK : Keeps M' M'') : MapG C M g i k s1 g1 M'' :=
  ⟨C.stable _ _ _ _ h.inv hK.1 (fun j hj => hK.2 j (C.lt _ _ _ _ h.inv hj)), Nat.le_trans h.len hK.1, fun j hj h1 h2 => (hK.2 j (Nat.lt_of_lt_of_le hj h.len)).trans (h.keep j hj h1 h2), h.own⟩

theorem MapG.call (h : MapG C M g i k s1 g1 M') {s2 : σ} {g2 : γ} (hI : C.Inv s2 g2 M'') (hl : M'.length ≤ M''.length) (hk : ∀ j, j < M'.length → ¬ C.Own g1 j → M''[j]? = M'[j]?) (ho : ∀ j, C.Own g2 j → C.Own g1 j ∨ M'.length ≤ j) : MapG C M g i k s2 g2 M'' :=
  ⟨hI, Nat.le_trans h.len hl, fun j hj h1 h2 => (hk j (Nat.lt_of_lt_of_le hj h.len) (h.not_own hj h2)).trans (h.keep j hj h1 h2), fun j hj => by
    rcases ho j hj with h1 | h1
    · exact h.own j h1
    · exact .inr (Nat.le_trans h.len h1)⟩

theorem MapG.write (h : MapG C M g i k s1 g1 M') {kk : Nat} (hk : k = some kk) (hkl : kk < M.length) (hn : ¬ C.Own g kk) (o : AObj) : MapG C M g i k s1 g1 (M'.set kk o) :=
  ⟨C.stable _ _ _ _ h.inv (by simp) (fun j hj => by
      have : kk ≠ j := fun e => h.not_own hkl hn (by rw [e]; exact hj)
      exact List.getElem?_set_ne this), by simp [h.len], fun j hj h1 h2 => by
      have : kk ≠ j := fun e => h1 (by rw [hk, e])
      rw [List.getElem?_set_ne this]; exact h.keep j hj h1 h2, h.own⟩
end

theorem map_ok {σ γ : Type} {fid : FuncId} {caps : List V} (C : Clo σ γ fid caps) (M : AMem) (i : Nat) (most : Int) (k : Option Nat) (fs : List Frm) (s : σ) (g : γ) (hS : StackAt M i most (encL fs) k) (hfs : ∀ f ∈ fs, f.ok) (hw : (encL fs).length ≤ 1000000)
    (hI : C.Inv s g M) (hoi : ¬ C.Own g i) (hok : ∀ k', k = some k' → ¬ C.Own g k') (hcost : C.cost s + (encL fs).length ≤ 2000000) :
    ACalls Try.prog 17 [.ptr i 0, .fn fid caps] M (fun r M' => StackAt M' i most (encL (runFs C.stp s fs.reverse).1.reverse) k ∧ ∃ g1, MapG C M g i k (runFs C.stp s fs.reverse).2 g1 M') := by
  refine acalls_enter [] 54 Try.func17 rfl rfl rfl (by simp) ?_
  have hi : i < M.length := (List.getElem?_eq_some_iff.1 hS.cells).1
  (repeat (first | refine W_seq ?_ | refine W_block ?_ | refine W_blk ?_ | refine W_skip ?_))
  (refine W_region [] (by rfl) fun K hK => ?_; simp only [go_sem, Nat.reduceEqDiff, Nat.reduceLT, Nat.reduceAdd, Nat.reduceLeDiff, Nat.reduceMul, Nat.reduceSub, Int.reduceLE, Int.reduceLT, Int.reduceToNat, Int.reducePow, Int.reduceEq])
  refine WRun.call _ _ _ _ _ _ _ (used_ok _ _ _ _ _ hS) ?_
  rintro r M0 ⟨rfl, h00⟩
  subst h00
  simp only [go_sem, Nat.reduceEqDiff, Nat.reduceLT, Nat.reduceAdd, Nat.reduceLeDiff, Nat.reduceMul, Nat.reduceSub, Int.reduceLE, Int.reduceLT, Int.reduceToNat, Int.reducePow, Int.reduceEq]
  (refine WRun.done _ _ (hK _ _ ?_); clear hK)
  (repeat (first | refine W_seq ?_ | refine W_block ?_ | refine W_blk ?_ | refine W_skip ?_))
  refine W_loop (α := List Frm × σ) (fun x F M' => ∃ dn g1, look F 0 = .ptr i 0 ∧ look F 1 = .fn fid caps ∧ look F 4 = V.int ((encL x.1).length : Nat) ∧ StackAt M' i most (encL x.1 ++ encL dn) k ∧ MapG C M0 g i k x.2 g1 M' ∧
      runFs C.stp s fs.reverse = (dn.reverse ++ (runFs C.stp x.2 x.1.reverse).1, (runFs C.stp x.2 x.1.reverse).2) ∧ (∀ f ∈ x.1, f.ok) ∧ (encL x.1).length + (encL dn).length = (encL fs).length ∧ C.cost x.2 + (encL x.1).length ≤ 2000000) (fun x => x.1.length) (fs, s)
    ⟨[], g, ?_, ?_, ?_, by simpa [encL] using hS, ⟨hI, Nat.le_refl _, fun _ _ _ _ => rfl, fun j h => .inl h⟩, by simp, hfs, by simp [encL], hcost⟩ ?_
  · simp only [go_sem, Nat.reduceEqDiff, Nat.reduceLT, Nat.reduceAdd, Nat.reduceLeDiff, Nat.reduceMul, Nat.reduceSub, Int.reduceLE, Int.reduceLT, Int.reduceToNat, Int.reducePow, Int.reduceEq]
  · simp only [go_sem, Nat.reduceEqDiff, Nat.reduceLT, Nat.reduceAdd, Nat.reduceLeDiff, Nat.reduceMul, Nat.reduceSub, Int.reduceLE, Int.reduceLT, Int.reduceToNat, Int.reducePow, Int.reduceEq]
  · simp only [go_sem, Nat.reduceEqDiff, Nat.reduceLT, Nat.reduceAdd, Nat.reduceLeDiff, Nat.reduceMul, Nat.reduceSub, Int.reduceLE, Int.reduceLT, Int.reduceToNat, Int.reducePow, Int.reduceEq]
  rintro ⟨ps, s1⟩ F M' ⟨dn, g1, f0, f1, f4, hS1, hG, hrun, hpso, hN, hc1⟩
  simp only at f4 hS1 hG hrun hpso hN hc1
  rcases List.eq_nil_or_concat ps with rfl | ⟨ps', f, rfl⟩
  · (repeat (first | refine W_seq ?_ | refine W_block ?_ | refine W_blk ?_ | refine W_skip ?_ | (refine W_region [] (by rfl) fun K hK => ?_; simp only [go_sem, Nat.reduceEqDiff, Nat.reduceLT, Nat.reduceAdd, Nat.reduceLeDiff, Nat.reduceMul, Nat.reduceSub, Int.reduceLE, Int.reduceLT, Int.reduceToNat, Int.reducePow, Int.reduceEq, f4, encL, List.flatMap_nil, List.length_nil]; refine WRun.done _ _ (hK _ _ ?_); clear hK)))
    refine W_cond_false (by simp only [go_sem, Nat.reduceEqDiff, Nat.reduceLT, Nat.reduceAdd, Nat.reduceLeDiff, Nat.reduceMul, Nat.reduceSub, Int.reduceLE, Int.reduceLT, Int.reduceToNat, Int.reducePow, Int.reduceEq]) ?_
    refine W_exit (Qof_code (Qof_stop (Qof_blk_same ?_)))
    refine W_nil ?_
    simp only [go_sem, Nat.reduceEqDiff, Nat.reduceLT, Nat.reduceAdd, Nat.reduceLeDiff, Nat.reduceMul, Nat.reduceSub, Int.reduceLE, Int.reduceLT, Int.reduceToNat, Int.reducePow, Int.reduceEq]
    simp only [List.reverse_nil, runFs, List.append_nil] at hrun
    rw [hrun]
    simp only [List.reverse_reverse]
    exact ⟨by simpa [encL] using hS1, g1, hG⟩
  · rw [List.concat_eq_append] at *
    have e1 : (((encL (ps' ++ [f])).length : Nat) : Int) = (((encL ps').length + f.l.length + 3 : Nat) : Int) := by rw [encL_snoc, List.length_append, enc_length]; omega
    rw [e1] at f4
    have hpos : (0 : Int) < (((encL ps').length + f.l.length + 3 : Nat) : Int) := by omega
    have hfo : f.ok := hpso f (by simp)
    have hN2 : (encL ps').length + f.l.length + 3 + (encL dn).length = (encL fs).length := by rw [← hN, encL_snoc, List.length_append, enc_length]; omega
    obtain ⟨kk, rfl⟩ : ∃ kk, k = some kk := by
      cases k with
      | none => have := hS1.none rfl; have := congrArg List.length this; simp [encL_snoc, enc_length] at this
      | some kk => exact ⟨kk, rfl⟩
    have hnk := hok kk rfl
    have hkl : kk < M0.length := by
      obtain ⟨_, cs, h, _⟩ := hS.some kk rfl
      exact (List.getElem?_eq_some_iff.1 h).1
    (repeat (first | refine W_seq ?_ | refine W_block ?_ | refine W_blk ?_ | refine W_skip ?_ | (refine W_region [] (by rfl) fun K hK => ?_; simp only [go_sem, Nat.reduceEqDiff, Nat.reduceLT, Nat.reduceAdd, Nat.reduceLeDiff, Nat.reduceMul, Nat.reduceSub, Int.reduceLE, Int.reduceLT, Int.reduceToNat, Int.reducePow, Int.reduceEq, f4, hpos]; refine WRun.done _ _ (hK _ _ ?_); clear hK)))
    refine W_cond_true (by simp only [go_sem, Nat.reduceEqDiff, Nat.reduceLT, Nat.reduceAdd, Nat.reduceLeDiff, Nat.reduceMul, Nat.reduceSub, Int.reduceLE, Int.reduceLT, Int.reduceToNat, Int.reducePow, Int.reduceEq]) ?_
    (repeat (first | refine W_seq ?_ | refine W_block ?_ | refine W_blk ?_ | refine W_skip ?_))
    (refine W_region [] (by rfl) fun K hK => ?_; simp only [go_sem, Nat.reduceEqDiff, Nat.reduceLT, Nat.reduceAdd, Nat.reduceLeDiff, Nat.reduceMul, Nat.reduceSub, Int.reduceLE, Int.reduceLT, Int.reduceToNat, Int.reducePow, Int.reduceEq, f0, f4])
    refine WRun.call _ _ _ _ _ _ _ (top_ok _ i most _ _ hS1 (encL ps') (encL dn) f hfo (by rw [encL_snoc]; simp) (by simp [encL_snoc, enc_length]; omega)) ?_
    rintro r M1 ⟨⟨tg, rfl⟩, hK1⟩
    simp only [go_sem, Nat.reduceEqDiff, Nat.reduceLT, Nat.reduceAdd, Nat.reduceLeDiff, Nat.reduceMul, Nat.reduceSub, Int.reduceLE, Int.reduceLT, Int.reduceToNat, Int.reducePow, Int.reduceEq, Frm.V]
    (refine WRun.done _ _ (hK _ _ ?_); clear hK)
    have hx : ¬ C.Own g1 M1.length := fun h => by have := C.lt _ _ _ _ hG.inv h; have := hK1.1; omega
    have hK2 := hK1.trans (Keeps.append M1 [AObj.cells [V.int f.kind, V.int f.a, V.int f.b, V.list tg (List.map V.int f.l)]])
    have hG2 := hG.keeps hK2
    have hS2 := hS1.keeps hK2
    have hx2 : (M1 ++ [AObj.cells [V.int f.kind, V.int f.a, V.int f.b, V.list tg (List.map V.int f.l)]])[M1.length]? = some (AObj.cells [V.int f.kind, V.int f.a, V.int f.b, V.list tg (List.map V.int f.l)]) := by simp
    have hxM : M0.length ≤ M1.length := Nat.le_trans hG.len hK1.1
    generalize hx0 : M1.length = x at hx hx2 hxM
    generalize M1 ++ [AObj.cells [V.int f.kind, V.int f.a, V.int f.b, V.list tg (List.map V.int f.l)]] = M2 at hK2 hG2 hS2 hx2
    (repeat (first | refine W_seq ?_ | refine W_block ?_ | refine W_blk ?_ | refine W_skip ?_))
    (refine W_region [] (by rfl) fun K hK => ?_; simp only [go_sem, Nat.reduceEqDiff, Nat.reduceLT, Nat.reduceAdd, Nat.reduceLeDiff, Nat.reduceMul, Nat.reduceSub, Int.reduceLE, Int.reduceLT, Int.reduceToNat, Int.reducePow, Int.reduceEq, hx2])
    (refine WRun.done _ _ (hK _ _ ?_); clear hK)
    (repeat (first | refine W_seq ?_ | refine W_block ?_ | refine W_blk ?_ | refine W_skip ?_))
    refine W_loop (α := Nat × σ) (fun y F M3 => ∃ vs g2, y.1 ≤ f.l.length ∧ vs.length = y.1 ∧ runL C.stp s1 f.l = (vs ++ (runL C.stp y.2 (f.l.drop y.1)).1, (runL C.stp y.2 (f.l.drop y.1)).2) ∧ look F 0 = .ptr i 0 ∧ look F 1 = .fn fid caps ∧
      look F 4 = V.int ((encL ps').length + f.l.length + 3 : Nat) ∧ look F 5 = .ptr x 0 ∧ look F 6 = V.int (encL ps').length ∧ look F 20 = .list tg (f.l.map V.int) ∧ look F 21 = V.int f.l.length ∧ look F 22 = V.int y.1 ∧
      StackAt M3 i most (encL ps' ++ (vs ++ f.l.drop y.1 ++ ([f.a, f.b, 4 * f.l.length + f.kind] ++ encL dn))) (some kk) ∧ MapG C M0 g i (some kk) y.2 g2 M3 ∧ M3[x]? = some (AObj.cells [V.int f.kind, V.int f.a, V.int f.b, V.list tg (List.map V.int f.l)]) ∧ ¬ C.Own g2 x ∧
      C.cost y.2 ≤ C.cost s1 + y.1) (fun y => f.l.length - y.1) (0, s1)
      ⟨[], g1, Nat.zero_le _, rfl, rfl, ?_, ?_, ?_, ?_, ?_, ?_, ?_, ?_, ?_, hG2, hx2, hx, Nat.le_refl _⟩ ?_
    · simp only [go_sem, Nat.reduceEqDiff, Nat.reduceLT, Nat.reduceAdd, Nat.reduceLeDiff, Nat.reduceMul, Nat.reduceSub, Int.reduceLE, Int.reduceLT, Int.reduceToNat, Int.reducePow, Int.reduceEq, f0]
    · simp only [go_sem, Nat.reduceEqDiff, Nat.reduceLT, Nat.reduceAdd, Nat.reduceLeDiff, Nat.reduceMul, Nat.reduceSub, Int.reduceLE, Int.reduceLT, Int.reduceToNat, Int.reducePow, Int.reduceEq, f1]
    · simp only [go_sem, Nat.reduceEqDiff, Nat.reduceLT, Nat.reduceAdd, Nat.reduceLeDiff, Nat.reduceMul, Nat.reduceSub, Int.reduceLE, Int.reduceLT, Int.reduceToNat, Int.reducePow, Int.reduceEq, f4]
    · simp only [go_sem, Nat.reduceEqDiff, Nat.reduceLT, Nat.reduceAdd, Nat.reduceLeDiff, Nat.reduceMul, Nat.reduceSub, Int.reduceLE, Int.reduceLT, Int.reduceToNat, Int.reducePow, Int.reduceEq]
    · simp only [go_sem, Nat.reduceEqDiff, Nat.reduceLT, Nat.reduceAdd, Nat.reduceLeDiff, Nat.reduceMul, Nat.reduceSub, Int.reduceLE, Int.reduceLT, Int.reduceToNat, Int.reducePow, Int.reduceEq]
    · simp only [go_sem, Nat.reduceEqDiff, Nat.reduceLT, Nat.reduceAdd, Nat.reduceLeDiff, Nat.reduceMul, Nat.reduceSub, Int.reduceLE, Int.reduceLT, Int.reduceToNat, Int.reducePow, Int.reduceEq]
    · simp only [go_sem, Nat.reduceEqDiff, Nat.reduceLT, Nat.reduceAdd, Nat.reduceLeDiff, Nat.reduceMul, Nat.reduceSub, Int.reduceLE, Int.reduceLT, Int.reduceToNat, Int.reducePow, Int.reduceEq]
    · simp only [go_sem, Nat.reduceEqDiff, Nat.reduceLT, Nat.reduceAdd, Nat.reduceLeDiff, Nat.reduceMul, Nat.reduceSub, Int.reduceLE, Int.reduceLT, Int.reduceToNat, Int.reducePow, Int.reduceEq]
    · have : encL (ps' ++ [f]) ++ encL dn = encL ps' ++ ([] ++ f.l.drop 0 ++ ([f.a, f.b, 4 * f.l.length + f.kind] ++ encL dn)) := by rw [encL_snoc, Frm.enc]; simp
      rw [← this]; exact hS2
    clear f0 f1 f4
    rintro ⟨n, s2⟩ F M3 ⟨vs, g2, hn, hvs, hrl, f0, f1, f4, f5, f6, f20, f21, f22, hS3, hG3, hx3, hox, hc3⟩
    simp only at hn hvs hrl f22 hS3 hG3 hox hc3
    by_cases hlt : n < f.l.length
    · have hlt' : (n : Int) < (f.l.length : Int) := by omega
      obtain ⟨p, hat, hdrop⟩ : ∃ p, (f.l.map V.int)[n]? = some (V.int p) ∧ f.l.drop n = p :: f.l.drop (n + 1) := ⟨f.l[n], by simp [hlt], List.drop_eq_getElem_cons hlt⟩
      obtain ⟨hki, cs, hk3, hcs3⟩ := hS3.some kk rfl
      have hc3i := hS3.cells
      simp only [wordsV] at hc3i
      have hwl : (encL ps' ++ (vs ++ f.l.drop n ++ ([f.a, f.b, 4 * f.l.length + f.kind] ++ encL dn))).length = (encL fs).length := by
        simp only [List.length_append, List.length_drop, List.length_cons, List.length_nil]; omega
      rw [hwl] at hc3i
      have e2 : IntKind.i64.wrap (((encL ps').length : Int) + (n : Int)) = (((encL ps').length + n : Nat) : Int) := by rw [wrapI _ (by omega) (by omega)]; omega
      have e3 : IntKind.i64.wrap ((n : Int) + 1) = ((n + 1 : Nat) : Int) := by rw [wrapI _ (by omega) (by omega)]; omega
      have L1 : (((encL ps').length + n : Nat) : Int) < ((encL fs).length : Int) := by omega
      have hb := C.body
      (repeat (first | refine W_seq ?_ | refine W_block ?_ | refine W_blk ?_ | refine W_skip ?_ | (refine W_region [] (by rfl) fun K hK => ?_; simp only [go_sem, Nat.reduceEqDiff, Nat.reduceLT, Nat.reduceAdd, Nat.reduceLeDiff, Nat.reduceMul, Nat.reduceSub, Int.reduceLE, Int.reduceLT, Int.reduceToNat, Int.reducePow, Int.reduceEq, f21, f22, hlt']; refine WRun.done _ _ (hK _ _ ?_); clear hK)))
      refine W_cond_true (by simp only [go_sem, Nat.reduceEqDiff, Nat.reduceLT, Nat.reduceAdd, Nat.reduceLeDiff, Nat.reduceMul, Nat.reduceSub, Int.reduceLE, Int.reduceLT, Int.reduceToNat, Int.reducePow, Int.reduceEq]) ?_
      (repeat (first | refine W_seq ?_ | refine W_block ?_ | refine W_blk ?_ | refine W_skip ?_ | (refine W_region [] (by rfl) fun K hK => ?_; simp only [go_sem, Nat.reduceEqDiff, Nat.reduceLT, Nat.reduceAdd, Nat.reduceLeDiff, Nat.reduceMul, Nat.reduceSub, Int.reduceLE, Int.reduceLT, Int.reduceToNat, Int.reducePow, Int.reduceEq, f20, f21, f22, hat, Int.natCast_nonneg, Int.toNat_natCast]; refine WRun.done _ _ (hK _ _ ?_); clear hK)))
      (repeat (first | refine W_seq ?_ | refine W_block ?_ | refine W_blk ?_ | refine W_skip ?_))
      (refine W_draw [] (fun M' => M'[i]? = some (.cells [V.arr kk 0 (encL fs).length 1, V.int most])) mixed_ (by rfl) ?_ fun K hK => ?_)
      · exact hc3i
      (refine DR_quiet [0, 1, 2, 3, 4, 5, 6, 7, 8] (by decide +kernel) (fun M_ hS_ => ?_) (fun K2 hK2 => ?_); (focus (simp only [go_sem, Nat.reduceEqDiff, Nat.reduceLT, Nat.reduceAdd, Nat.reduceLeDiff, Nat.reduceMul, Nat.reduceSub, Int.reduceLE, Int.reduceLT, Int.reduceToNat, Int.reducePow, Int.reduceEq, hS_, f0, f1, f6, hc3i, e2])); simp only [go_sem, Nat.reduceEqDiff, Nat.reduceLT, Nat.reduceAdd, Nat.reduceLeDiff, Nat.reduceMul, Nat.reduceSub, Int.reduceLE, Int.reduceLT, Int.reduceToNat, Int.reducePow, Int.reduceEq, f0, f1, f6, hc3i, e2]; refine hK2 _ ?_; clear hK2)
      (refine DR_sole' 9 (by decide +kernel) (by simp only [go_sem, Nat.reduceEqDiff, Nat.reduceLT, Nat.reduceAdd, Nat.reduceLeDiff, Nat.reduceMul, Nat.reduceSub, Int.reduceLE, Int.reduceLT, Int.reduceToNat, Int.reducePow, Int.reduceEq, hb]) ?_; simp only [go_sem, Nat.reduceEqDiff, Nat.reduceLT, Nat.reduceAdd, Nat.reduceLeDiff, Nat.reduceMul, Nat.reduceSub, Int.reduceLE, Int.reduceLT, Int.reduceToNat, Int.reducePow, Int.reduceEq, hb])
      refine ⟨_, C.call s2 g2 M3 p hG3.inv (by simp only [encL_snoc, List.length_append, enc_length] at hc1; omega), ?_⟩
      rintro r M4 ⟨rfl, g4, hI4, hl4, hk4, ho4⟩
      have hG4 := hG3.call hI4 hl4 hk4 ho4
      have hil : i < M3.length := Nat.lt_of_lt_of_le hi hG3.len
      have hkkl : kk < M3.length := Nat.lt_of_lt_of_le hkl hG3.len
      have hxl : x < M3.length := (List.getElem?_eq_some_iff.1 hx3).1
      have m4i : M4[i]? = M3[i]? := hk4 i hil (hG3.not_own hi hoi)
      have m4k : M4[kk]? = some (.cells cs) := by rw [hk4 kk hkkl (hG3.not_own hkl hnk)]; exact hk3
      have m4x : M4[x]? = M3[x]? := hk4 x hxl hox
      have hS4 : StackAt M4 i most (encL ps' ++ (vs ++ f.l.drop n ++ ([f.a, f.b, 4 * f.l.length + f.kind] ++ encL dn))) (some kk) :=
        ⟨by rw [m4i]; exact hS3.cells, (fun h => by cases h), fun k' e => by injection e with e; subst e; exact ⟨hki, cs, m4k, hcs3⟩⟩
      have hle3 : (encL ps').length + n + 1 ≤ cs.length := by
        have := congrArg List.length hcs3
        rw [List.length_take, List.length_map, hwl] at this
        omega
      refine ⟨by rw [m4i]; exact hc3i, ?_⟩
      (refine DR_quiet [10] (by decide +kernel) (fun M_ hS_ => ?_) (fun K2 hK2 => ?_); (focus (simp only [go_sem, Nat.reduceEqDiff, Nat.reduceLT, Nat.reduceAdd, Nat.reduceLeDiff, Nat.reduceMul, Nat.reduceSub, Int.reduceLE, Int.reduceLT, Int.reduceToNat, Int.reducePow, Int.reduceEq, hS_, Int.natCast_nonneg, Int.toNat_natCast, L1, Nat.zero_add])); simp only [go_sem, Nat.reduceEqDiff, Nat.reduceLT, Nat.reduceAdd, Nat.reduceLeDiff, Nat.reduceMul, Nat.reduceSub, Int.reduceLE, Int.reduceLT, Int.reduceToNat, Int.reducePow, Int.reduceEq, Int.natCast_nonneg, Int.toNat_natCast, L1, Nat.zero_add]; refine hK2 _ ?_; clear hK2)
      (refine DR_last' 11 (by decide +kernel) (by decide +kernel) (by decide +kernel) (by simp only [go_sem, Nat.reduceEqDiff, Nat.reduceLT, Nat.reduceAdd, Nat.reduceLeDiff, Nat.reduceMul, Nat.reduceSub, Int.reduceLE, Int.reduceLT, Int.reduceToNat, Int.reducePow, Int.reduceEq, m4k, hle3]) ?_; simp only [go_sem, Nat.reduceEqDiff, Nat.reduceLT, Nat.reduceAdd, Nat.reduceLeDiff, Nat.reduceMul, Nat.reduceSub, Int.reduceLE, Int.reduceLT, Int.reduceToNat, Int.reducePow, Int.reduceEq, m4k, hle3]; refine hK _ _ ?_; clear hK)
      have hw5 := stack_write hS4 m4k (off := (encL ps').length + n) (by rw [hwl]; omega) (C.stp s2 p).1
      have hG5 := hG4.write rfl hkl hnk (.cells (overA cs ((encL ps').length + n) [V.int (C.stp s2 p).1]))
      have hws5 : (encL ps' ++ (vs ++ f.l.drop n ++ ([f.a, f.b, 4 * f.l.length + f.kind] ++ encL dn))).set ((encL ps').length + n) (C.stp s2 p).1 = encL ps' ++ ((vs ++ [(C.stp s2 p).1]) ++ f.l.drop (n + 1) ++ ([f.a, f.b, 4 * f.l.length + f.kind] ++ encL dn)) := by
        rw [hdrop, show (encL ps').length + n = (encL ps').length + vs.length by omega, List.append_assoc vs, List.cons_append]
        exact set_mid' _ _ _ _ _ _
      rw [hws5] at hw5
      have m5x : (M4.set kk (.cells (overA cs ((encL ps').length + n) [V.int (C.stp s2 p).1])))[x]? = M3[x]? := by rw [List.getElem?_set_ne (by omega)]; exact m4x
      (repeat (first | refine W_seq ?_ | refine W_block ?_ | refine W_blk ?_ | refine W_skip ?_ | (refine W_region [] (by rfl) fun K hK => ?_; simp only [go_sem, Nat.reduceEqDiff, Nat.reduceLT, Nat.reduceAdd, Nat.reduceLeDiff, Nat.reduceMul, Nat.reduceSub, Int.reduceLE, Int.reduceLT, Int.reduceToNat, Int.reducePow, Int.reduceEq, f22, e3]; refine WRun.done _ _ (hK _ _ ?_); clear hK)))
      refine W_stop ⟨(n + 1, (C.stp s2 p).2), ⟨vs ++ [(C.stp s2 p).1], g4, by omega, by simp [hvs], ?_, ?_, ?_, ?_, ?_, ?_, ?_, ?_, ?_, hw5, hG5, m5x.trans hx3, ?_, ?_⟩, by simp only; omega⟩
      · rw [hrl, hdrop]; simp [runL]
      · simp only [go_sem, Nat.reduceEqDiff, Nat.reduceLT, Nat.reduceAdd, Nat.reduceLeDiff, Nat.reduceMul, Nat.reduceSub, Int.reduceLE, Int.reduceLT, Int.reduceToNat, Int.reducePow, Int.reduceEq, f0]
      · simp only [go_sem, Nat.reduceEqDiff, Nat.reduceLT, Nat.reduceAdd, Nat.reduceLeDiff, Nat.reduceMul, Nat.reduceSub, Int.reduceLE, Int.reduceLT, Int.reduceToNat, Int.reducePow, Int.reduceEq, f1]
      · simp only [go_sem, Nat.reduceEqDiff, Nat.reduceLT, Nat.reduceAdd, Nat.reduceLeDiff, Nat.reduceMul, Nat.reduceSub, Int.reduceLE, Int.reduceLT, Int.reduceToNat, Int.reducePow, Int.reduceEq, f4]
      · simp only [go_sem, Nat.reduceEqDiff, Nat.reduceLT, Nat.reduceAdd, Nat.reduceLeDiff, Nat.reduceMul, Nat.reduceSub, Int.reduceLE, Int.reduceLT, Int.reduceToNat, Int.reducePow, Int.reduceEq, f5]
      · simp only [go_sem, Nat.reduceEqDiff, Nat.reduceLT, Nat.reduceAdd, Nat.reduceLeDiff, Nat.reduceMul, Nat.reduceSub, Int.reduceLE, Int.reduceLT, Int.reduceToNat, Int.reducePow, Int.reduceEq, f6]
      · simp only [go_sem, Nat.reduceEqDiff, Nat.reduceLT, Nat.reduceAdd, Nat.reduceLeDiff, Nat.reduceMul, Nat.reduceSub, Int.reduceLE, Int.reduceLT, Int.reduceToNat, Int.reducePow, Int.reduceEq, f20]
      · simp only [go_sem, Nat.reduceEqDiff, Nat.reduceLT, Nat.reduceAdd, Nat.reduceLeDiff, Nat.reduceMul, Nat.reduceSub, Int.reduceLE, Int.reduceLT, Int.reduceToNat, Int.reducePow, Int.reduceEq, f21]
      · simp only [go_sem, Nat.reduceEqDiff, Nat.reduceLT, Nat.reduceAdd, Nat.reduceLeDiff, Nat.reduceMul, Nat.reduceSub, Int.reduceLE, Int.reduceLT, Int.reduceToNat, Int.reducePow, Int.reduceEq]
      · intro h
        rcases ho4 x h with h | h
        · exact hox h
        · omega
      · have := C.pay s2 p
        simp only
        omega
    · have hnl : n = f.l.length := by omega
      subst hnl
      have hlt' : ¬ ((f.l.length : Int) < (f.l.length : Int)) := by omega
      (repeat (first | refine W_seq ?_ | refine W_block ?_ | refine W_blk ?_ | refine W_skip ?_ | (refine W_region [] (by rfl) fun K hK => ?_; simp only [go_sem, Nat.reduceEqDiff, Nat.reduceLT, Nat.reduceAdd, Nat.reduceLeDiff, Nat.reduceMul, Nat.reduceSub, Int.reduceLE, Int.reduceLT, Int.reduceToNat, Int.reducePow, Int.reduceEq, f21, f22, hlt']; refine WRun.done _ _ (hK _ _ ?_); clear hK)))
      refine W_cond_false (by simp only [go_sem, Nat.reduceEqDiff, Nat.reduceLT, Nat.reduceAdd, Nat.reduceLeDiff, Nat.reduceMul, Nat.reduceSub, Int.reduceLE, Int.reduceLT, Int.reduceToNat, Int.reducePow, Int.reduceEq]) ?_
      refine W_exit (Qof_code (Qof_stop (Qof_blk_same ?_)))
      simp only [List.drop_length, runL, List.append_nil] at hrl hS3
      (repeat (first | refine W_seq ?_ | refine W_block ?_ | refine W_blk ?_ | refine W_skip ?_ | (refine W_region [] (by rfl) fun K hK => ?_; simp only [go_sem, Nat.reduceEqDiff, Nat.reduceLT, Nat.reduceAdd, Nat.reduceLeDiff, Nat.reduceMul, Nat.reduceSub, Int.reduceLE, Int.reduceLT, Int.reduceToNat, Int.reducePow, Int.reduceEq, f5, hx3]; refine WRun.done _ _ (hK _ _ ?_); clear hK)))
      obtain ⟨hki, cs, hk3, hcs3⟩ := hS3.some kk rfl
      have hc3i := hS3.cells
      simp only [wordsV] at hc3i
      have hwl : (encL ps' ++ (vs ++ ([f.a, f.b, 4 * f.l.length + f.kind] ++ encL dn))).length = (encL fs).length := by
        simp only [List.length_append, List.length_cons, List.length_nil]; omega
      rw [hwl] at hc3i
      have fin : ∀ (f' : Frm) (s3 : σ) (g3 : γ) (F' : Fr) (M5 : AMem), runF C.stp s1 f = (f', s3) → f'.l.length = f.l.length → C.cost s3 ≤ C.cost s1 + f.l.length + 1 → look F' 0 = .ptr i 0 → look F' 1 = .fn fid caps → look F' 6 = V.int (encL ps').length →
          StackAt M5 i most (encL ps' ++ encL (f' :: dn)) (some kk) → MapG C M0 g i (some kk) s3 g3 M5 →
          (∃ x' : List Frm × σ, (∃ dn g1, look ((4, V.int (encL ps').length) :: (53, V.int (encL ps').length) :: F') 0 = .ptr i 0 ∧ look ((4, V.int (encL ps').length) :: (53, V.int (encL ps').length) :: F') 1 = .fn fid caps ∧
            look ((4, V.int (encL ps').length) :: (53, V.int (encL ps').length) :: F') 4 = V.int ((encL x'.1).length : Nat) ∧ StackAt M5 i most (encL x'.1 ++ encL dn) (some kk) ∧ MapG C M0 g i (some kk) x'.2 g1 M5 ∧
            runFs C.stp s fs.reverse = (dn.reverse ++ (runFs C.stp x'.2 x'.1.reverse).1, (runFs C.stp x'.2 x'.1.reverse).2) ∧ (∀ f ∈ x'.1, f.ok) ∧ (encL x'.1).length + (encL dn).length = (encL fs).length ∧ C.cost x'.2 + (encL x'.1).length ≤ 2000000) ∧ x'.1.length < (ps' ++ [f]).length) := by
        intro f' s3 g3 F' M5 h1 h2 h3 h4 h5 h6 h7 h8
        refine ⟨(ps', s3), ⟨f' :: dn, g3, ?_, ?_, ?_, h7, h8, ?_, fun q hq => hpso q (by simp [hq]), ?_, ?_⟩, by simp⟩
        · simp only [go_sem, Nat.reduceEqDiff, Nat.reduceLT, Nat.reduceAdd, Nat.reduceLeDiff, Nat.reduceMul, Nat.reduceSub, Int.reduceLE, Int.reduceLT, Int.reduceToNat, Int.reducePow, Int.reduceEq, h4]
        · simp only [go_sem, Nat.reduceEqDiff, Nat.reduceLT, Nat.reduceAdd, Nat.reduceLeDiff, Nat.reduceMul, Nat.reduceSub, Int.reduceLE, Int.reduceLT, Int.reduceToNat, Int.reducePow, Int.reduceEq, h5]
        · simp only [go_sem, Nat.reduceEqDiff, Nat.reduceLT, Nat.reduceAdd, Nat.reduceLeDiff, Nat.reduceMul, Nat.reduceSub, Int.reduceLE, Int.reduceLT, Int.reduceToNat, Int.reducePow, Int.reduceEq]
        · rw [hrun]; simp [runFs, h1]
        · simp only [encL, List.flatMap_cons, List.length_append, enc_length] at *; omega
        · simp only [encL_snoc, List.length_append, enc_length] at hc1; simp only; omega
      have hrf : runF C.stp s1 f = if f.kind = 2 then ({ f with l := vs, a := (C.stp s2 f.a).1 }, (C.stp s2 f.a).2) else ({ f with l := vs }, s2) := by
        unfold runF; rw [hrl]
      by_cases hkd : f.kind = 2
      · have e2 : IntKind.i64.wrap ((((encL ps').length + f.l.length + 3 : Nat) : Int) - 3) = (((encL ps').length + f.l.length : Nat) : Int) := by rw [wrapI _ (by omega) (by omega)]; omega
        have L1 : (((encL ps').length + f.l.length : Nat) : Int) < ((encL fs).length : Int) := by omega
        have hb := C.body
        refine W_cond_true (by simp only [go_sem, Nat.reduceEqDiff, Nat.reduceLT, Nat.reduceAdd, Nat.reduceLeDiff, Nat.reduceMul, Nat.reduceSub, Int.reduceLE, Int.reduceLT, Int.reduceToNat, Int.reducePow, Int.reduceEq, hkd]) ?_
        (repeat (first | refine W_seq ?_ | refine W_block ?_ | refine W_blk ?_ | refine W_skip ?_))
        (refine W_draw [] (fun M' => M'[i]? = some (.cells [V.arr kk 0 (encL fs).length 1, V.int most]) ∧ M'[x]? = some (AObj.cells [V.int f.kind, V.int f.a, V.int f.b, V.list tg (List.map V.int f.l)])) mixed_ (by rfl) ?_ fun K hK => ?_)
        · exact ⟨hc3i, hx3⟩
        (refine DR_quiet [0, 1, 2, 3, 4, 5, 6, 7, 8] (by decide +kernel) (fun M_ hS_ => ?_) (fun K2 hK2 => ?_); (focus (simp only [go_sem, Nat.reduceEqDiff, Nat.reduceLT, Nat.reduceAdd, Nat.reduceLeDiff, Nat.reduceMul, Nat.reduceSub, Int.reduceLE, Int.reduceLT, Int.reduceToNat, Int.reducePow, Int.reduceEq, hS_, f0, f1, f4, f5, hc3i, hx3, e2])); simp only [go_sem, Nat.reduceEqDiff, Nat.reduceLT, Nat.reduceAdd, Nat.reduceLeDiff, Nat.reduceMul, Nat.reduceSub, Int.reduceLE, Int.reduceLT, Int.reduceToNat, Int.reducePow, Int.reduceEq, f0, f1, f4, f5, hc3i, hx3, e2]; refine hK2 _ ?_; clear hK2)
        (refine DR_sole' 9 (by decide +kernel) (by simp only [go_sem, Nat.reduceEqDiff, Nat.reduceLT, Nat.reduceAdd, Nat.reduceLeDiff, Nat.reduceMul, Nat.reduceSub, Int.reduceLE, Int.reduceLT, Int.reduceToNat, Int.reducePow, Int.reduceEq, hb]) ?_; simp only [go_sem, Nat.reduceEqDiff, Nat.reduceLT, Nat.reduceAdd, Nat.reduceLeDiff, Nat.reduceMul, Nat.reduceSub, Int.reduceLE, Int.reduceLT, Int.reduceToNat, Int.reducePow, Int.reduceEq, hb])
        refine ⟨_, C.call s2 g2 M3 f.a hG3.inv (by simp only [encL_snoc, List.length_append, enc_length] at hc1; omega), ?_⟩
        rintro r M4 ⟨rfl, g4, hI4, hl4, hk4, ho4⟩
        have hG4 := hG3.call hI4 hl4 hk4 ho4
        have hil : i < M3.length := Nat.lt_of_lt_of_le hi hG3.len
        have hkkl : kk < M3.length := Nat.lt_of_lt_of_le hkl hG3.len
        have hxl : x < M3.length := (List.getElem?_eq_some_iff.1 hx3).1
        have m4i : M4[i]? = M3[i]? := hk4 i hil (hG3.not_own hi hoi)
        have m4k : M4[kk]? = some (.cells cs) := by rw [hk4 kk hkkl (hG3.not_own hkl hnk)]; exact hk3
        have m4x : M4[x]? = M3[x]? := hk4 x hxl hox
        have hS4 : StackAt M4 i most (encL ps' ++ (vs ++ ([f.a, f.b, 4 * f.l.length + f.kind] ++ encL dn))) (some kk) :=
          ⟨by rw [m4i]; exact hS3.cells, (fun h => by cases h), fun k' e => by injection e with e; subst e; exact ⟨hki, cs, m4k, hcs3⟩⟩
        have hle3 : (encL ps').length + f.l.length + 1 ≤ cs.length := by
          have := congrArg List.length hcs3
          rw [List.length_take, List.length_map, hwl] at this
          omega
        refine ⟨⟨by rw [m4i]; exact hc3i, by rw [m4x]; exact hx3⟩, ?_⟩
        (refine DR_quiet [10] (by decide +kernel) (fun M_ hS_ => ?_) (fun K2 hK2 => ?_); (focus (simp only [go_sem, Nat.reduceEqDiff, Nat.reduceLT, Nat.reduceAdd, Nat.reduceLeDiff, Nat.reduceMul, Nat.reduceSub, Int.reduceLE, Int.reduceLT, Int.reduceToNat, Int.reducePow, Int.reduceEq, hS_, Int.natCast_nonneg, Int.toNat_natCast, L1, Nat.zero_add])); simp only [go_sem, Nat.reduceEqDiff, Nat.reduceLT, Nat.reduceAdd, Nat.reduceLeDiff, Nat.reduceMul, Nat.reduceSub, Int.reduceLE, Int.reduceLT, Int.reduceToNat, Int.reducePow, Int.reduceEq, Int.natCast_nonneg, Int.toNat_natCast, L1, Nat.zero_add]; refine hK2 _ ?_; clear hK2)
        (refine DR_last' 11 (by decide +kernel) (by decide +kernel) (by decide +kernel) (by simp only [go_sem, Nat.reduceEqDiff, Nat.reduceLT, Nat.reduceAdd, Nat.reduceLeDiff, Nat.reduceMul, Nat.reduceSub, Int.reduceLE, Int.reduceLT, Int.reduceToNat, Int.reducePow, Int.reduceEq, m4k, hle3]) ?_; simp only [go_sem, Nat.reduceEqDiff, Nat.reduceLT, Nat.reduceAdd, Nat.reduceLeDiff, Nat.reduceMul, Nat.reduceSub, Int.reduceLE, Int.reduceLT, Int.reduceToNat, Int.reducePow, Int.reduceEq, m4k, hle3]; refine hK _ _ ?_; clear hK)
        have hw5 := stack_write hS4 m4k (off := (encL ps').length + f.l.length) (by rw [hwl]; omega) (C.stp s2 f.a).1
        have hG5 := hG4.write rfl hkl hnk (.cells (overA cs ((encL ps').length + f.l.length) [V.int (C.stp s2 f.a).1]))
        have hws5 : (encL ps' ++ (vs ++ ([f.a, f.b, 4 * f.l.length + f.kind] ++ encL dn))).set ((encL ps').length + f.l.length) (C.stp s2 f.a).1 = encL ps' ++ encL ({ f with l := vs, a := (C.stp s2 f.a).1 } :: dn) := by
          rw [show (encL ps').length + f.l.length = (encL ps').length + vs.length by omega]
          have := set_mid' (encL ps') (encL dn) vs f.a (C.stp s2 f.a).1 [f.b, 4 * f.l.length + f.kind]
          simp only [List.cons_append, List.nil_append] at this ⊢
          rw [this]
          simp [encL, Frm.enc, hvs]
        rw [hws5] at hw5
        (repeat (first | refine W_seq ?_ | refine W_block ?_ | refine W_blk ?_ | refine W_skip ?_ | (refine W_region [] (by rfl) fun K hK => ?_; simp only [go_sem, Nat.reduceEqDiff, Nat.reduceLT, Nat.reduceAdd, Nat.reduceLeDiff, Nat.reduceMul, Nat.reduceSub, Int.reduceLE, Int.reduceLT, Int.reduceToNat, Int.reducePow, Int.reduceEq, f6]; refine WRun.done _ _ (hK _ _ ?_); clear hK)))
        refine W_stop (fin _ _ _ _ _ (by rw [hrf, if_pos hkd]) (by simpa using hvs) ?_ ?_ ?_ ?_ hw5 hG5)
        · have := C.pay s2 f.a; omega
        · simp only [go_sem, Nat.reduceEqDiff, Nat.reduceLT, Nat.reduceAdd, Nat.reduceLeDiff, Nat.reduceMul, Nat.reduceSub, Int.reduceLE, Int.reduceLT, Int.reduceToNat, Int.reducePow, Int.reduceEq, f0]
        · simp only [go_sem, Nat.reduceEqDiff, Nat.reduceLT, Nat.reduceAdd, Nat.reduceLeDiff, Nat.reduceMul, Nat.reduceSub, Int.reduceLE, Int.reduceLT, Int.reduceToNat, Int.reducePow, Int.reduceEq, f1]
        · simp only [go_sem, Nat.reduceEqDiff, Nat.reduceLT, Nat.reduceAdd, Nat.reduceLeDiff, Nat.reduceMul, Nat.reduceSub, Int.reduceLE, Int.reduceLT, Int.reduceToNat, Int.reducePow, Int.reduceEq, f6]
      · refine W_cond_false (by simp only [go_sem, Nat.reduceEqDiff, Nat.reduceLT, Nat.reduceAdd, Nat.reduceLeDiff, Nat.reduceMul, Nat.reduceSub, Int.reduceLE, Int.reduceLT, Int.reduceToNat, Int.reducePow, Int.reduceEq, hkd]) ?_
        (repeat (first | refine W_seq ?_ | refine W_block ?_ | refine W_blk ?_ | refine W_skip ?_ | (refine W_region [] (by rfl) fun K hK => ?_; simp only [go_sem, Nat.reduceEqDiff, Nat.reduceLT, Nat.reduceAdd, Nat.reduceLeDiff, Nat.reduceMul, Nat.reduceSub, Int.reduceLE, Int.reduceLT, Int.reduceToNat, Int.reducePow, Int.reduceEq, f6]; refine WRun.done _ _ (hK _ _ ?_); clear hK)))
        refine W_stop (fin _ _ _ _ _ (by rw [hrf, if_neg hkd]) (by simpa using hvs) ?_ ?_ ?_ ?_ ?_ hG3)
        · omega
        · simp only [go_sem, Nat.reduceEqDiff, Nat.reduceLT, Nat.reduceAdd, Nat.reduceLeDiff, Nat.reduceMul, Nat.reduceSub, Int.reduceLE, Int.reduceLT, Int.reduceToNat, Int.reducePow, Int.reduceEq, f0]
        · simp only [go_sem, Nat.reduceEqDiff, Nat.reduceLT, Nat.reduceAdd, Nat.reduceLeDiff, Nat.reduceMul, Nat.reduceSub, Int.reduceLE, Int.reduceLT, Int.reduceToNat, Int.reducePow, Int.reduceEq, f1]
        · simp only [go_sem, Nat.reduceEqDiff, Nat.reduceLT, Nat.reduceAdd, Nat.reduceLeDiff, Nat.reduceMul, Nat.reduceSub, Int.reduceLE, Int.reduceLT, Int.reduceToNat, Int.reducePow, Int.reduceEq, f6]
        · simpa [encL, Frm.enc, hvs] using hS3
end Go.Ax

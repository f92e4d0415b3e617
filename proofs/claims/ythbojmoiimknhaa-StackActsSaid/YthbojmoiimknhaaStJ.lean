import Derived.Test.YthbojmoiimknhaaStI
set_option linter.unusedSimpArgs false
set_option linter.unusedVariables false
namespace Go.Ax
open Go.Proofs

theorem encL_len100 {ls : List LFrm} (h : ∀ x ∈ ls, x.f.ok) : True := trivial

theorem ActR.next {most : Int} {i : Nat} {ls ls' : List LFrm} {k lk k' lk' : Option Nat} {acts : List V} {n : Nat} {F F' : Fr} {M M' : AMem} (h : ActR most i ls k lk acts n F M) (st : ActSt M' i most ls' k' lk') (len : (encL (ls'.map LFrm.f)).length ≤ most)
    (e0 : look F' 0 = look F 0) (e5 : look F' 5 = look F 5) (e7 : look F' 7 = listV lk' ls'.length) (e8 : look F' 8 = V.int (encL (ls'.map LFrm.f)).length) (e51 : look F' 51 = look F 51) (e52 : look F' 52 = look F 52) (e53 : look F' 53 = look F 53) : ActR most i ls' k' lk' acts n F' M' :=
  ⟨st, len, e0.trans h.f0, e5.trans h.f5, e7, e8, e51.trans h.f51, e52.trans h.f52, e53.trans h.f53⟩

/-- A push. -/
theorem act_push {Ret : Fr → AMem → Prop} {k0 : List It} {most : Int} {i x : Nat} {ls : List LFrm} {k lk : Option Nat} {acts : List V} {n : Nat} {a : ActIn} {F : Fr} {M : AMem} (hR : ActR most i ls k lk acts n F M) (hX : ActX a x i ls k lk F M) (hmost : most ≤ 16384) (hls : ls.length ≤ 100)
    (hk : ∀ F' M' ls' k' lk', ActR most i ls' k' lk' acts n F' M' → ls'.length ≤ ls.length + 1 → W Try.prog 301 Ret k0 F' M')
    (hret : ∀ F' M', look F' 4 = V.bool true → Ret F' M') :
    W Try.prog 301 Ret (.code (part [1,1,1,1,1,1,0,1,1,1,1,1,0,1,1,0,1,1,1,0] body3) :: k0) F M := by
  obtain ⟨hst, hlen, f0, f5, f7, f8, f51, f52, f53⟩ := hR
  have hR : ActR most i ls k lk acts n F M := ⟨hst, hlen, f0, f5, f7, f8, f51, f52, f53⟩
  obtain ⟨f10, hx, hxi, hxk, hxlk, hxls⟩ := hX
  have hx0 := hx
  simp only [ActIn.cells] at hx0
  obtain ⟨hil, hkl, hlkl, hlsl⟩ := hst.lts
  have hxl := lt_of_atS hx
  by_cases hbig : a.f.l.length ≤ 300
  · have hbig' : ((300 : Int) < (a.f.l.length : Int)) = False := eq_false (by omega)
    have hone := ints_one a.f.l
    have hl30 : a.f.l.length ≤ 1073741824 := by omega
    (repeat (first | refine W_seq ?_ | refine W_block ?_ | refine W_blk ?_ | refine W_skip ?_))
    (refine W_region [] (by rfl) fun K hK => ?_; simp only [go_sem, Nat.reduceEqDiff, Nat.reduceLT, Nat.reduceAdd, Nat.reduceLeDiff, Nat.reduceMul, Nat.reduceSub, Int.reduceLE, Int.reduceLT, Int.reduceToNat, Int.reducePow, Int.reduceEq, f10, hx0, hbig', List.length_map, Nat.zero_add])
    (refine WRun.done _ _ (hK _ _ ?_); clear hK)
    (repeat (first | refine W_seq ?_ | refine W_block ?_ | refine W_blk ?_ | refine W_skip ?_))
    refine W_cond_false (by simp only [go_sem, Nat.reduceEqDiff, Nat.reduceLT, Nat.reduceAdd, Nat.reduceLeDiff, Nat.reduceMul, Nat.reduceSub, Int.reduceLE, Int.reduceLT, Int.reduceToNat, Int.reducePow, Int.reduceEq]) ?_
    (repeat (first | refine W_seq ?_ | refine W_block ?_ | refine W_blk ?_ | refine W_skip ?_))
    (refine W_region [145] (by rfl) fun K hK => ?_; simp only [go_sem, Nat.reduceEqDiff, Nat.reduceLT, Nat.reduceAdd, Nat.reduceLeDiff, Nat.reduceMul, Nat.reduceSub, Int.reduceLE, Int.reduceLT, Int.reduceToNat, Int.reducePow, Int.reduceEq, f10, hx0, hl30, hone, List.length_map, List.length_nil, Nat.zero_add])
    (refine WRun.done _ _ (hK _ _ ?_); clear hK)
    -- the row that is handed over
    obtain ⟨o, ho⟩ : ∃ o, o = M.length := ⟨_, rfl⟩
    have hM1l : (M ++ [AObj.cells (a.f.l.map V.int)]).length = M.length + 1 := by simp
    have ho1 : (M ++ [AObj.cells (a.f.l.map V.int)])[o]? = some (.cells (a.f.l.map V.int)) := by rw [ho]; simp
    have hk1 : ∀ j, j < M.length → (M ++ [AObj.cells (a.f.l.map V.int)])[j]? = M[j]? := fun j hj => List.getElem?_append_left hj
    rw [← ho]
    generalize M ++ [AObj.cells (a.f.l.map V.int)] = M1 at hM1l ho1 hk1 ⊢
    have st1 : ActSt M1 i most ls k lk := hst.same (hk1 _ hil) (fun k' e => hk1 _ (hkl k' e)) (fun k' e => hk1 _ (hlkl k' e)) (fun y hy => hk1 _ (hlsl y hy))
    have hx1 : M1[x]? = some (.cells a.cells) := (hk1 _ hxl).trans hx
    have hx1' := hx1
    simp only [ActIn.cells] at hx1'
    have hInts : Ints M1 (.arr o 0 a.f.l.length 1) a.f.l := .inr ⟨o, _, rfl, ho1, List.take_of_length_le (by simp)⟩
    have hw : (encL (ls.map LFrm.f)).length ≤ 1000000 := by omega
    have hbi := badF_iff a.f hbig
    -- what is alike in all three cases
    have fin : ∀ (F3 : Fr) (M3 : AMem) (r : Int) (ls' : List LFrm) (k' lk' : Option Nat), look F3 0 = look F 0 → look F3 5 = look F 5 → look F3 7 = listV lk' ls'.length → look F3 8 = V.int (encL (ls'.map LFrm.f)).length → look F3 51 = look F 51 → look F3 52 = look F 52 → look F3 53 = look F 53 →
        look F3 11 = .arr o 0 a.f.l.length 1 → look F3 12 = V.int r → look F3 13 = V.int r → ActSt M3 i most ls' k' lk' → (encL (ls'.map LFrm.f)).length ≤ most → ls'.length ≤ ls.length + 1 → M3[o]? = some (.cells (a.f.l.map V.int)) → (o ≠ i ∧ k' ≠ some o ∧ lk' ≠ some o ∧ ∀ y ∈ ls', y.id ≠ o) →
        W Try.prog 301 Ret (.code (part [1,1,1,1,1,1,0,1,1,1,1,1,0,1,1,0,1,1,1,0,1,1,1,1,1] body3) :: k0) F3 M3 := by
      intro F3 M3 r ls' k' lk' e0 e5 e7 e8 e51 e52 e53 e11 e12 e13 st3 hl3 hls3 ho3 hne
      refine push_tail F3 M3 o a.f.l.length r _ e11 e12 e13 ho3 (by simp) (by omega) ?_
      intro F4 M4 hrg hml4 hk4
      obtain ⟨r0, r5, r7, r8, r51, r52, r53⟩ := hrg
      exact hk F4 M4 ls' k' lk' (hR.next (st3.same (hk4 _ (Ne.symm hne.1)) (fun q e => hk4 _ (fun h => hne.2.1 (by rw [e, h]))) (fun q e => hk4 _ (fun h => hne.2.2.1 (by rw [e, h]))) (fun y hy => hk4 _ (hne.2.2.2 y hy))) hl3
        (r0.trans e0) (r5.trans e5) (r7.trans e7) (r8.trans e8) (r51.trans e51) (r52.trans e52) (r53.trans e53)) hls3
    have hone1 : o ≠ i := by omega
    have honk : k ≠ some o := fun e => by have := hkl o e; omega
    have honl : lk ≠ some o := fun e => by have := hlkl o e; omega
    have hons : ∀ y ∈ ls, y.id ≠ o := fun y hy e => by have := hlsl y hy; omega
    (repeat (first | refine W_seq ?_ | refine W_block ?_ | refine W_blk ?_ | refine W_skip ?_))
    (refine W_region [] (by rfl) fun K hK => ?_; simp only [go_sem, Nat.reduceEqDiff, Nat.reduceLT, Nat.reduceAdd, Nat.reduceLeDiff, Nat.reduceMul, Nat.reduceSub, Int.reduceLE, Int.reduceLT, Int.reduceToNat, Int.reducePow, Int.reduceEq, f5, f10, hx1', Nat.zero_add])
    by_cases hbd : bad a.f.kind a.f.a a.f.b a.f.l.length
    · refine WRun.call _ _ _ _ _ _ _ (push_bad M1 i a.f.kind a.f.a a.f.b _ a.f.l hInts hbd) ?_
      rintro r M2 ⟨rfl, rfl⟩
      have hb1 : badF a.f = true := hbi.2 hbd
      simp only [go_sem, Nat.reduceEqDiff, Nat.reduceLT, Nat.reduceAdd, Nat.reduceLeDiff, Nat.reduceMul, Nat.reduceSub, Int.reduceLE, Int.reduceLT, Int.reduceToNat, Int.reducePow, Int.reduceEq]
      (refine WRun.done _ _ (hK _ _ ?_); clear hK)
      (repeat (first | refine W_seq ?_ | refine W_block ?_ | refine W_blk ?_ | refine W_skip ?_))
      (refine W_region [] (by rfl) fun K hK => ?_; simp only [go_sem, Nat.reduceEqDiff, Nat.reduceLT, Nat.reduceAdd, Nat.reduceLeDiff, Nat.reduceMul, Nat.reduceSub, Int.reduceLE, Int.reduceLT, Int.reduceToNat, Int.reducePow, Int.reduceEq])
      (refine WRun.done _ _ (hK _ _ ?_); clear hK)
      refine W_seq ?_
      refine W_block ?_
      refine W_seq ?_
      refine push_r37 hx1 _ ?_ ?_
      · simp only [go_sem, Nat.reduceEqDiff, Nat.reduceLT, Nat.reduceAdd, Nat.reduceLeDiff, Nat.reduceMul, Nat.reduceSub, Int.reduceLE, Int.reduceLT, Int.reduceToNat, Int.reducePow, Int.reduceEq, f10]
      intro F2 hF g180
      rw [hb1] at g180
      refine W_cond_true (by simp only [go_sem, Nat.reduceEqDiff, Nat.reduceLT, Nat.reduceAdd, Nat.reduceLeDiff, Nat.reduceMul, Nat.reduceSub, Int.reduceLE, Int.reduceLT, Int.reduceToNat, Int.reducePow, Int.reduceEq, g180]) ?_
      (repeat (first | refine W_seq ?_ | refine W_block ?_ | refine W_blk ?_ | refine W_skip ?_))
      (refine W_region [] (by rfl) fun K hK => ?_; simp only [go_sem, Nat.reduceEqDiff, Nat.reduceLT, Nat.reduceAdd, Nat.reduceLeDiff, Nat.reduceMul, Nat.reduceSub, Int.reduceLE, Int.reduceLT, Int.reduceToNat, Int.reducePow, Int.reduceEq])
      (refine WRun.done _ _ (hK _ _ ?_); clear hK)
      refine fin _ _ 1 ls k lk ?_ ?_ ?_ ?_ ?_ ?_ ?_ ?_ ?_ ?_ st1 hlen (by omega) ho1 ⟨hone1, honk, honl, hons⟩
      · simp only [go_sem, Nat.reduceEqDiff, Nat.reduceLT, Nat.reduceAdd, Nat.reduceLeDiff, Nat.reduceMul, Nat.reduceSub, Int.reduceLE, Int.reduceLT, Int.reduceToNat, Int.reducePow, Int.reduceEq, hF 0 (by decide)]
      · simp only [go_sem, Nat.reduceEqDiff, Nat.reduceLT, Nat.reduceAdd, Nat.reduceLeDiff, Nat.reduceMul, Nat.reduceSub, Int.reduceLE, Int.reduceLT, Int.reduceToNat, Int.reducePow, Int.reduceEq, hF 5 (by decide)]
      · simp only [go_sem, Nat.reduceEqDiff, Nat.reduceLT, Nat.reduceAdd, Nat.reduceLeDiff, Nat.reduceMul, Nat.reduceSub, Int.reduceLE, Int.reduceLT, Int.reduceToNat, Int.reducePow, Int.reduceEq, hF 7 (by decide), f7]
      · simp only [go_sem, Nat.reduceEqDiff, Nat.reduceLT, Nat.reduceAdd, Nat.reduceLeDiff, Nat.reduceMul, Nat.reduceSub, Int.reduceLE, Int.reduceLT, Int.reduceToNat, Int.reducePow, Int.reduceEq, hF 8 (by decide), f8]
      · simp only [go_sem, Nat.reduceEqDiff, Nat.reduceLT, Nat.reduceAdd, Nat.reduceLeDiff, Nat.reduceMul, Nat.reduceSub, Int.reduceLE, Int.reduceLT, Int.reduceToNat, Int.reducePow, Int.reduceEq, hF 51 (by decide)]
      · simp only [go_sem, Nat.reduceEqDiff, Nat.reduceLT, Nat.reduceAdd, Nat.reduceLeDiff, Nat.reduceMul, Nat.reduceSub, Int.reduceLE, Int.reduceLT, Int.reduceToNat, Int.reducePow, Int.reduceEq, hF 52 (by decide)]
      · simp only [go_sem, Nat.reduceEqDiff, Nat.reduceLT, Nat.reduceAdd, Nat.reduceLeDiff, Nat.reduceMul, Nat.reduceSub, Int.reduceLE, Int.reduceLT, Int.reduceToNat, Int.reducePow, Int.reduceEq, hF 53 (by decide)]
      · simp only [go_sem, Nat.reduceEqDiff, Nat.reduceLT, Nat.reduceAdd, Nat.reduceLeDiff, Nat.reduceMul, Nat.reduceSub, Int.reduceLE, Int.reduceLT, Int.reduceToNat, Int.reducePow, Int.reduceEq, hF 11 (by decide)]
      · simp only [go_sem, Nat.reduceEqDiff, Nat.reduceLT, Nat.reduceAdd, Nat.reduceLeDiff, Nat.reduceMul, Nat.reduceSub, Int.reduceLE, Int.reduceLT, Int.reduceToNat, Int.reducePow, Int.reduceEq, hF 12 (by decide)]
      · simp only [go_sem, Nat.reduceEqDiff, Nat.reduceLT, Nat.reduceAdd, Nat.reduceLeDiff, Nat.reduceMul, Nat.reduceSub, Int.reduceLE, Int.reduceLT, Int.reduceToNat, Int.reducePow, Int.reduceEq]
    · have hb1 : badF a.f = false := by
        cases hb : badF a.f with
        | false => rfl
        | true => exact absurd (hbi.1 hb) hbd
      by_cases hfull : most < (encL (ls.map LFrm.f)).length + a.f.l.length + 3
      · refine WRun.call _ _ _ _ _ _ _ (push_full M1 i most _ k a.f.kind a.f.a a.f.b _ a.f.l st1.stack hw hInts hbd hfull) ?_
        rintro r M2 ⟨rfl, rfl⟩
        have e1 : IntKind.i64.wrap (((encL (ls.map LFrm.f)).length : Int) + 3) = (((encL (ls.map LFrm.f)).length + 3 : Nat) : Int) := by rw [wrapI _ (by omega) (by omega)]; omega
        have e2 : IntKind.i64.wrap ((((encL (ls.map LFrm.f)).length + 3 : Nat) : Int) + (a.f.l.length : Int)) = (((encL (ls.map LFrm.f)).length + 3 + a.f.l.length : Nat) : Int) := by rw [wrapI _ (by omega) (by omega)]; omega
        have hz : (most < (((encL (ls.map LFrm.f)).length + 3 + a.f.l.length : Nat) : Int)) = True := eq_true (by omega)
        simp only [go_sem, Nat.reduceEqDiff, Nat.reduceLT, Nat.reduceAdd, Nat.reduceLeDiff, Nat.reduceMul, Nat.reduceSub, Int.reduceLE, Int.reduceLT, Int.reduceToNat, Int.reducePow, Int.reduceEq]
        (refine WRun.done _ _ (hK _ _ ?_); clear hK)
        (repeat (first | refine W_seq ?_ | refine W_block ?_ | refine W_blk ?_ | refine W_skip ?_))
        (refine W_region [] (by rfl) fun K hK => ?_; simp only [go_sem, Nat.reduceEqDiff, Nat.reduceLT, Nat.reduceAdd, Nat.reduceLeDiff, Nat.reduceMul, Nat.reduceSub, Int.reduceLE, Int.reduceLT, Int.reduceToNat, Int.reducePow, Int.reduceEq])
        (refine WRun.done _ _ (hK _ _ ?_); clear hK)
        refine W_seq ?_
        refine W_block ?_
        refine W_seq ?_
        refine push_r37 hx1 _ ?_ ?_
        · simp only [go_sem, Nat.reduceEqDiff, Nat.reduceLT, Nat.reduceAdd, Nat.reduceLeDiff, Nat.reduceMul, Nat.reduceSub, Int.reduceLE, Int.reduceLT, Int.reduceToNat, Int.reducePow, Int.reduceEq, f10]
        intro F2 hF g180
        rw [hb1] at g180
        have g0 : look F2 0 = V.int most := (hF 0 (by decide)).trans (by simp only [go_sem, Nat.reduceEqDiff, Nat.reduceLT, Nat.reduceAdd, Nat.reduceLeDiff, Nat.reduceMul, Nat.reduceSub, Int.reduceLE, Int.reduceLT, Int.reduceToNat, Int.reducePow, Int.reduceEq]; exact f0)
        have g8 : look F2 8 = V.int (encL (ls.map LFrm.f)).length := (hF 8 (by decide)).trans (by simp only [go_sem, Nat.reduceEqDiff, Nat.reduceLT, Nat.reduceAdd, Nat.reduceLeDiff, Nat.reduceMul, Nat.reduceSub, Int.reduceLE, Int.reduceLT, Int.reduceToNat, Int.reducePow, Int.reduceEq]; exact f8)
        have g11 : look F2 11 = .arr o 0 a.f.l.length 1 := (hF 11 (by decide)).trans (by simp only [go_sem, Nat.reduceEqDiff, Nat.reduceLT, Nat.reduceAdd, Nat.reduceLeDiff, Nat.reduceMul, Nat.reduceSub, Int.reduceLE, Int.reduceLT, Int.reduceToNat, Int.reducePow, Int.reduceEq])
        refine W_cond_false (by simp only [go_sem, Nat.reduceEqDiff, Nat.reduceLT, Nat.reduceAdd, Nat.reduceLeDiff, Nat.reduceMul, Nat.reduceSub, Int.reduceLE, Int.reduceLT, Int.reduceToNat, Int.reducePow, Int.reduceEq, g180]) ?_
        (repeat (first | refine W_seq ?_ | refine W_block ?_ | refine W_blk ?_ | refine W_skip ?_))
        (refine W_region [] (by rfl) fun K hK => ?_; simp only [go_sem, Nat.reduceEqDiff, Nat.reduceLT, Nat.reduceAdd, Nat.reduceLeDiff, Nat.reduceMul, Nat.reduceSub, Int.reduceLE, Int.reduceLT, Int.reduceToNat, Int.reducePow, Int.reduceEq, g0, g8, g11, e1, e2, hz])
        (refine WRun.done _ _ (hK _ _ ?_); clear hK)
        refine W_cond_true (by simp only [go_sem, Nat.reduceEqDiff, Nat.reduceLT, Nat.reduceAdd, Nat.reduceLeDiff, Nat.reduceMul, Nat.reduceSub, Int.reduceLE, Int.reduceLT, Int.reduceToNat, Int.reducePow, Int.reduceEq]) ?_
        (repeat (first | refine W_seq ?_ | refine W_block ?_ | refine W_blk ?_ | refine W_skip ?_))
        (refine W_region [] (by rfl) fun K hK => ?_; simp only [go_sem, Nat.reduceEqDiff, Nat.reduceLT, Nat.reduceAdd, Nat.reduceLeDiff, Nat.reduceMul, Nat.reduceSub, Int.reduceLE, Int.reduceLT, Int.reduceToNat, Int.reducePow, Int.reduceEq])
        (refine WRun.done _ _ (hK _ _ ?_); clear hK)
        refine fin _ _ 10 ls k lk ?_ ?_ ?_ ?_ ?_ ?_ ?_ ?_ ?_ ?_ st1 hlen (by omega) ho1 ⟨hone1, honk, honl, hons⟩
        · simp only [go_sem, Nat.reduceEqDiff, Nat.reduceLT, Nat.reduceAdd, Nat.reduceLeDiff, Nat.reduceMul, Nat.reduceSub, Int.reduceLE, Int.reduceLT, Int.reduceToNat, Int.reducePow, Int.reduceEq, hF 0 (by decide)]
        · simp only [go_sem, Nat.reduceEqDiff, Nat.reduceLT, Nat.reduceAdd, Nat.reduceLeDiff, Nat.reduceMul, Nat.reduceSub, Int.reduceLE, Int.reduceLT, Int.reduceToNat, Int.reducePow, Int.reduceEq, hF 5 (by decide)]
        · simp only [go_sem, Nat.reduceEqDiff, Nat.reduceLT, Nat.reduceAdd, Nat.reduceLeDiff, Nat.reduceMul, Nat.reduceSub, Int.reduceLE, Int.reduceLT, Int.reduceToNat, Int.reducePow, Int.reduceEq, hF 7 (by decide), f7]
        · simp only [go_sem, Nat.reduceEqDiff, Nat.reduceLT, Nat.reduceAdd, Nat.reduceLeDiff, Nat.reduceMul, Nat.reduceSub, Int.reduceLE, Int.reduceLT, Int.reduceToNat, Int.reducePow, Int.reduceEq, hF 8 (by decide), f8]
        · simp only [go_sem, Nat.reduceEqDiff, Nat.reduceLT, Nat.reduceAdd, Nat.reduceLeDiff, Nat.reduceMul, Nat.reduceSub, Int.reduceLE, Int.reduceLT, Int.reduceToNat, Int.reducePow, Int.reduceEq, hF 51 (by decide)]
        · simp only [go_sem, Nat.reduceEqDiff, Nat.reduceLT, Nat.reduceAdd, Nat.reduceLeDiff, Nat.reduceMul, Nat.reduceSub, Int.reduceLE, Int.reduceLT, Int.reduceToNat, Int.reducePow, Int.reduceEq, hF 52 (by decide)]
        · simp only [go_sem, Nat.reduceEqDiff, Nat.reduceLT, Nat.reduceAdd, Nat.reduceLeDiff, Nat.reduceMul, Nat.reduceSub, Int.reduceLE, Int.reduceLT, Int.reduceToNat, Int.reducePow, Int.reduceEq, hF 53 (by decide)]
        · simp only [go_sem, Nat.reduceEqDiff, Nat.reduceLT, Nat.reduceAdd, Nat.reduceLeDiff, Nat.reduceMul, Nat.reduceSub, Int.reduceLE, Int.reduceLT, Int.reduceToNat, Int.reducePow, Int.reduceEq, hF 11 (by decide)]
        · simp only [go_sem, Nat.reduceEqDiff, Nat.reduceLT, Nat.reduceAdd, Nat.reduceLeDiff, Nat.reduceMul, Nat.reduceSub, Int.reduceLE, Int.reduceLT, Int.reduceToNat, Int.reducePow, Int.reduceEq, hF 12 (by decide)]
        · simp only [go_sem, Nat.reduceEqDiff, Nat.reduceLT, Nat.reduceAdd, Nat.reduceLeDiff, Nat.reduceMul, Nat.reduceSub, Int.reduceLE, Int.reduceLT, Int.reduceToNat, Int.reducePow, Int.reduceEq]
      · refine WRun.call _ _ _ _ _ _ _ (push_done M1 i most _ k a.f.kind a.f.a a.f.b _ a.f.l st1.stack hw hInts hbd (by omega)) ?_
        rintro r M2 ⟨rfl, hst2, hml2, hk2⟩
        have e1 : IntKind.i64.wrap (((encL (ls.map LFrm.f)).length : Int) + 3) = (((encL (ls.map LFrm.f)).length + 3 : Nat) : Int) := by rw [wrapI _ (by omega) (by omega)]; omega
        have e2 : IntKind.i64.wrap ((((encL (ls.map LFrm.f)).length + 3 : Nat) : Int) + (a.f.l.length : Int)) = (((encL (ls.map LFrm.f)).length + 3 + a.f.l.length : Nat) : Int) := by rw [wrapI _ (by omega) (by omega)]; omega
        have hz : (most < (((encL (ls.map LFrm.f)).length + 3 + a.f.l.length : Nat) : Int)) = False := eq_false (by omega)
        have ho2 : M2[o]? = some (.cells (a.f.l.map V.int)) := (hk2 o (lt_of_atS ho1) hone1 honk).trans ho1
        have hx2 : M2[x]? = some (.cells a.cells) := (hk2 x (lt_of_atS hx1) hxi hxk).trans hx1
        have hl2 : ListAt M2 ls lk := st1.list.same (fun q e => hk2 q (by have := hlkl q e; omega) (st1.a1 q e).1 (st1.a1 q e).2) (fun y hy => hk2 _ (by have := hlsl y hy; omega) (st1.a2 y hy).1 (st1.a2 y hy).2)
        simp only [go_sem, Nat.reduceEqDiff, Nat.reduceLT, Nat.reduceAdd, Nat.reduceLeDiff, Nat.reduceMul, Nat.reduceSub, Int.reduceLE, Int.reduceLT, Int.reduceToNat, Int.reducePow, Int.reduceEq]
        (refine WRun.done _ _ (hK _ _ ?_); clear hK)
        (repeat (first | refine W_seq ?_ | refine W_block ?_ | refine W_blk ?_ | refine W_skip ?_))
        (refine W_region [] (by rfl) fun K hK => ?_; simp only [go_sem, Nat.reduceEqDiff, Nat.reduceLT, Nat.reduceAdd, Nat.reduceLeDiff, Nat.reduceMul, Nat.reduceSub, Int.reduceLE, Int.reduceLT, Int.reduceToNat, Int.reducePow, Int.reduceEq])
        (refine WRun.done _ _ (hK _ _ ?_); clear hK)
        refine W_seq ?_
        refine W_block ?_
        refine W_seq ?_
        refine push_r37 hx2 _ ?_ ?_
        · simp only [go_sem, Nat.reduceEqDiff, Nat.reduceLT, Nat.reduceAdd, Nat.reduceLeDiff, Nat.reduceMul, Nat.reduceSub, Int.reduceLE, Int.reduceLT, Int.reduceToNat, Int.reducePow, Int.reduceEq, f10]
        intro F2 hF g180
        rw [hb1] at g180
        have g0 : look F2 0 = V.int most := (hF 0 (by decide)).trans (by simp only [go_sem, Nat.reduceEqDiff, Nat.reduceLT, Nat.reduceAdd, Nat.reduceLeDiff, Nat.reduceMul, Nat.reduceSub, Int.reduceLE, Int.reduceLT, Int.reduceToNat, Int.reducePow, Int.reduceEq]; exact f0)
        have g7 : look F2 7 = listV lk ls.length := (hF 7 (by decide)).trans (by simp only [go_sem, Nat.reduceEqDiff, Nat.reduceLT, Nat.reduceAdd, Nat.reduceLeDiff, Nat.reduceMul, Nat.reduceSub, Int.reduceLE, Int.reduceLT, Int.reduceToNat, Int.reducePow, Int.reduceEq]; exact f7)
        have g8 : look F2 8 = V.int (encL (ls.map LFrm.f)).length := (hF 8 (by decide)).trans (by simp only [go_sem, Nat.reduceEqDiff, Nat.reduceLT, Nat.reduceAdd, Nat.reduceLeDiff, Nat.reduceMul, Nat.reduceSub, Int.reduceLE, Int.reduceLT, Int.reduceToNat, Int.reducePow, Int.reduceEq]; exact f8)
        have g10 : look F2 10 = .ptr x 0 := (hF 10 (by decide)).trans (by simp only [go_sem, Nat.reduceEqDiff, Nat.reduceLT, Nat.reduceAdd, Nat.reduceLeDiff, Nat.reduceMul, Nat.reduceSub, Int.reduceLE, Int.reduceLT, Int.reduceToNat, Int.reducePow, Int.reduceEq]; exact f10)
        have g11 : look F2 11 = .arr o 0 a.f.l.length 1 := (hF 11 (by decide)).trans (by simp only [go_sem, Nat.reduceEqDiff, Nat.reduceLT, Nat.reduceAdd, Nat.reduceLeDiff, Nat.reduceMul, Nat.reduceSub, Int.reduceLE, Int.reduceLT, Int.reduceToNat, Int.reducePow, Int.reduceEq])
        refine W_cond_false (by simp only [go_sem, Nat.reduceEqDiff, Nat.reduceLT, Nat.reduceAdd, Nat.reduceLeDiff, Nat.reduceMul, Nat.reduceSub, Int.reduceLE, Int.reduceLT, Int.reduceToNat, Int.reducePow, Int.reduceEq, g180]) ?_
        refine W_seq ?_
        (refine W_region [] (by rfl) fun K hK => ?_; simp only [go_sem, Nat.reduceEqDiff, Nat.reduceLT, Nat.reduceAdd, Nat.reduceLeDiff, Nat.reduceMul, Nat.reduceSub, Int.reduceLE, Int.reduceLT, Int.reduceToNat, Int.reducePow, Int.reduceEq, g0, g8, g11, e1, e2, hz])
        (refine WRun.done _ _ (hK _ _ ?_); clear hK)
        refine W_cond_false (by simp only [go_sem, Nat.reduceEqDiff, Nat.reduceLT, Nat.reduceAdd, Nat.reduceLeDiff, Nat.reduceMul, Nat.reduceSub, Int.reduceLE, Int.reduceLT, Int.reduceToNat, Int.reducePow, Int.reduceEq]) ?_
        refine push_more (a := a) hls hbig (by omega) hl2 hx2 ho2 hxlk honl _ ?_ ?_ ?_ ?_ ?_
        · simp only [go_sem, Nat.reduceEqDiff, Nat.reduceLT, Nat.reduceAdd, Nat.reduceLeDiff, Nat.reduceMul, Nat.reduceSub, Int.reduceLE, Int.reduceLT, Int.reduceToNat, Int.reducePow, Int.reduceEq, g7]
        · simp only [go_sem, Nat.reduceEqDiff, Nat.reduceLT, Nat.reduceAdd, Nat.reduceLeDiff, Nat.reduceMul, Nat.reduceSub, Int.reduceLE, Int.reduceLT, Int.reduceToNat, Int.reducePow, Int.reduceEq, g8]
        · simp only [go_sem, Nat.reduceEqDiff, Nat.reduceLT, Nat.reduceAdd, Nat.reduceLeDiff, Nat.reduceMul, Nat.reduceSub, Int.reduceLE, Int.reduceLT, Int.reduceToNat, Int.reducePow, Int.reduceEq, g10]
        · simp only [go_sem, Nat.reduceEqDiff, Nat.reduceLT, Nat.reduceAdd, Nat.reduceLeDiff, Nat.reduceMul, Nat.reduceSub, Int.reduceLE, Int.reduceLT, Int.reduceToNat, Int.reducePow, Int.reduceEq, g11]
        intro F3 M3 lk' hF3 g7' g8' hml3 hlk' hid hnew hk3
        have henc : encL ((ls ++ [LFrm.mk a.f M2.length]).map LFrm.f) = encL (ls.map LFrm.f) ++ a.f.l ++ [a.f.a, a.f.b, 4 * a.f.l.length + a.f.kind] := by
          simp [encL, Frm.enc]
        have hst3 : StackAt M3 i most (encL ((ls ++ [LFrm.mk a.f M2.length]).map LFrm.f)) (some (M1.length + 1)) := by
          rw [henc]
          refine stack_same hst2 (hk3 _ (by omega) (fun e => (st1.a1 i e).1 rfl)) (fun q e => ?_)
          obtain rfl : M1.length + 1 = q := by injection e
          exact hk3 _ (by omega) (fun e => by have := hlkl _ e; omega)
        have hl3 : ListAt M3 (ls ++ [LFrm.mk a.f M2.length]) (some lk') := by
          refine ⟨fun e => (by cases e), fun q e => ?_, fun y hy => ?_, ?_, fun q y e hy => ?_⟩
          · obtain rfl : lk' = q := by injection e
            obtain ⟨cs, h1, h2⟩ := hnew
            exact ⟨cs, h1, by simpa using h2⟩
          · rcases List.mem_append.1 hy with hy | hy
            · obtain ⟨cs, h1, h2⟩ := hl2.each y hy
              refine ⟨cs, ?_, h2⟩
              rw [hk3 _ (lt_of_atS h1) (fun e => hl2.sep _ y e hy rfl)]; exact h1
            · have hy : y = LFrm.mk a.f M2.length := by simpa using hy
              subst hy
              exact ⟨_, hid, List.take_of_length_le (by simp)⟩
          · rw [List.map_append, List.nodup_append]
            refine ⟨hl2.ids, by simp, ?_⟩
            intro u hu v hv e
            obtain ⟨y, hy, rfl⟩ := List.mem_map.1 hu
            have hv : v = M2.length := by simpa using hv
            have := hlsl y hy
            omega
          · obtain rfl : lk' = q := by injection e
            rcases List.mem_append.1 hy with hy | hy
            · have := hlsl y hy; omega
            · have hy : y = LFrm.mk a.f M2.length := by simpa using hy
              subst hy
              show M2.length ≠ lk'
              omega
        have hok3 : ∀ y ∈ ls ++ [LFrm.mk a.f M2.length], y.f.ok := by
          intro y hy
          rcases List.mem_append.1 hy with hy | hy
          · exact hst.ok y hy
          · have hy : y = LFrm.mk a.f M2.length := by simpa using hy
            subst hy
            simp only [bad, not_or] at hbd
            exact ⟨by show 1 ≤ a.f.kind; omega, by show a.f.kind ≤ 3; omega, by show a.f.l.length ≤ 16384; omega⟩
        have hlen3 : (encL ((ls ++ [LFrm.mk a.f M2.length]).map LFrm.f)).length ≤ most := by
          rw [henc]; simp; omega
        refine fin F3 M3 0 (ls ++ [LFrm.mk a.f M2.length]) (some (M1.length + 1)) (some lk') ?_ ?_ (by rw [g7']; simp) g8' ?_ ?_ ?_ ?_ ?_ ?_ ⟨hst3, hl3, hok3, fun j e => ?_, fun y hy => ?_⟩ hlen3 (by simp) ?_ ⟨hone1, fun e => ?_, fun e => ?_, fun y hy e => ?_⟩
        · rw [hF3 0 (by decide) (by decide) (by decide)]; simp only [go_sem, Nat.reduceEqDiff, Nat.reduceLT, Nat.reduceAdd, Nat.reduceLeDiff, Nat.reduceMul, Nat.reduceSub, Int.reduceLE, Int.reduceLT, Int.reduceToNat, Int.reducePow, Int.reduceEq, hF 0 (by decide)]
        · rw [hF3 5 (by decide) (by decide) (by decide)]; simp only [go_sem, Nat.reduceEqDiff, Nat.reduceLT, Nat.reduceAdd, Nat.reduceLeDiff, Nat.reduceMul, Nat.reduceSub, Int.reduceLE, Int.reduceLT, Int.reduceToNat, Int.reducePow, Int.reduceEq, hF 5 (by decide)]
        · rw [hF3 51 (by decide) (by decide) (by decide)]; simp only [go_sem, Nat.reduceEqDiff, Nat.reduceLT, Nat.reduceAdd, Nat.reduceLeDiff, Nat.reduceMul, Nat.reduceSub, Int.reduceLE, Int.reduceLT, Int.reduceToNat, Int.reducePow, Int.reduceEq, hF 51 (by decide)]
        · rw [hF3 52 (by decide) (by decide) (by decide)]; simp only [go_sem, Nat.reduceEqDiff, Nat.reduceLT, Nat.reduceAdd, Nat.reduceLeDiff, Nat.reduceMul, Nat.reduceSub, Int.reduceLE, Int.reduceLT, Int.reduceToNat, Int.reducePow, Int.reduceEq, hF 52 (by decide)]
        · rw [hF3 53 (by decide) (by decide) (by decide)]; simp only [go_sem, Nat.reduceEqDiff, Nat.reduceLT, Nat.reduceAdd, Nat.reduceLeDiff, Nat.reduceMul, Nat.reduceSub, Int.reduceLE, Int.reduceLT, Int.reduceToNat, Int.reducePow, Int.reduceEq, hF 53 (by decide)]
        · rw [hF3 11 (by decide) (by decide) (by decide)]; simp only [go_sem, Nat.reduceEqDiff, Nat.reduceLT, Nat.reduceAdd, Nat.reduceLeDiff, Nat.reduceMul, Nat.reduceSub, Int.reduceLE, Int.reduceLT, Int.reduceToNat, Int.reducePow, Int.reduceEq, g11]
        · rw [hF3 12 (by decide) (by decide) (by decide)]; simp only [go_sem, Nat.reduceEqDiff, Nat.reduceLT, Nat.reduceAdd, Nat.reduceLeDiff, Nat.reduceMul, Nat.reduceSub, Int.reduceLE, Int.reduceLT, Int.reduceToNat, Int.reducePow, Int.reduceEq, hF 12 (by decide)]
        · rw [hF3 13 (by decide) (by decide) (by decide)]; simp only [go_sem, Nat.reduceEqDiff, Nat.reduceLT, Nat.reduceAdd, Nat.reduceLeDiff, Nat.reduceMul, Nat.reduceSub, Int.reduceLE, Int.reduceLT, Int.reduceToNat, Int.reducePow, Int.reduceEq, hF 13 (by decide)]
        · obtain rfl : lk' = j := by injection e
          exact ⟨by omega, fun e => by injection e with e; omega⟩
        · rcases List.mem_append.1 hy with hy | hy
          · have h1 := hlsl y hy
            exact ⟨(hst.a2 y hy).1, fun e => by injection e with e; omega⟩
          · have hy : y = LFrm.mk a.f M2.length := by simpa using hy
            subst hy
            exact ⟨by show M2.length ≠ i; omega, fun e => by injection e with e; have e : M1.length + 1 = M2.length := e; omega⟩
        · rw [hk3 o (lt_of_atS ho2) honl]; exact ho2
        · injection e with e; omega
        · injection e with e; omega
        · rcases List.mem_append.1 hy with hy | hy
          · exact hons y hy e
          · have hy : y = LFrm.mk a.f M2.length := by simpa using hy
            subst hy
            have e : M2.length = o := e
            omega
  · have hbig' : ((300 : Int) < (a.f.l.length : Int)) = True := eq_true (by omega)
    (repeat (first | refine W_seq ?_ | refine W_block ?_ | refine W_blk ?_ | refine W_skip ?_))
    (refine W_region [] (by rfl) fun K hK => ?_; simp only [go_sem, Nat.reduceEqDiff, Nat.reduceLT, Nat.reduceAdd, Nat.reduceLeDiff, Nat.reduceMul, Nat.reduceSub, Int.reduceLE, Int.reduceLT, Int.reduceToNat, Int.reducePow, Int.reduceEq, f10, hx0, hbig', List.length_map, Nat.zero_add])
    (refine WRun.done _ _ (hK _ _ ?_); clear hK)
    (repeat (first | refine W_seq ?_ | refine W_block ?_ | refine W_blk ?_ | refine W_skip ?_))
    refine W_cond_true (by simp only [go_sem, Nat.reduceEqDiff, Nat.reduceLT, Nat.reduceAdd, Nat.reduceLeDiff, Nat.reduceMul, Nat.reduceSub, Int.reduceLE, Int.reduceLT, Int.reduceToNat, Int.reducePow, Int.reduceEq]) ?_
    (repeat (first | refine W_seq ?_ | refine W_block ?_ | refine W_blk ?_ | refine W_skip ?_))
    (refine W_region [] (by rfl) fun K hK => ?_; simp only [go_sem, Nat.reduceEqDiff, Nat.reduceLT, Nat.reduceAdd, Nat.reduceLeDiff, Nat.reduceMul, Nat.reduceSub, Int.reduceLE, Int.reduceLT, Int.reduceToNat, Int.reducePow, Int.reduceEq])
    (refine WRun.done _ _ (hK _ _ ?_); clear hK)
    refine W_ret (hret _ _ ?_)
    simp only [go_sem, Nat.reduceEqDiff, Nat.reduceLT, Nat.reduceAdd, Nat.reduceLeDiff, Nat.reduceMul, Nat.reduceSub, Int.reduceLE, Int.reduceLT, Int.reduceToNat, Int.reducePow, Int.reduceEq]
end Go.Ax

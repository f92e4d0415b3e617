/- UnifySwaps: the law. Conditions: none. -/
import Derived.Test.YtfpmohmhiecjfaaDoorUnZc
import Derived.Test.YtfpmohmhiecjfaaDoorUnZd
set_option linter.unusedSimpArgs false
set_option linter.unusedVariables false
namespace Go.Ax
open Go.Proofs Go.Uni

theorem unify_some (i : Nat) {m m' : Nat → Ty} {a b : Ty} {c : Nat} (hU : Un m a b (some m') c) (hc : c ≤ 1099511627776) {es : List (Value × V)} {s : Nat → Option Ty} {r : Nat → Nat} (hs : SMap es s) (hm : Sbs s m r) (ha : Ar a) (hb : Ar b) (M : AMem) (hi : M[i]? = some (.map es)) :
    ACalls Tryd.prog 13 [.map i, enc a, enc b] M (fun v M' => v = V.int 0 ∧ ∃ es' s' r', M' = M.set i (.map es') ∧ SMap es' s' ∧ Sbs s' m' r') := by
  refine (unify_ok i hU hs hm ha hb M hi).mono ?_
  rintro v M' ⟨es', x, rfl, ⟨rfl, _, _, m2, s', r', e, h1, h2⟩ | ⟨_, h, _⟩⟩
  · injection e with e; subst e
    exact ⟨rfl, es', s', r', rfl, h1, h2⟩
  · rcases h with h | h
    · cases h
    · omega
theorem unify_none (i : Nat) {m : Nat → Ty} {a b : Ty} {c : Nat} (hU : Un m a b none c) {es : List (Value × V)} {s : Nat → Option Ty} {r : Nat → Nat} (hs : SMap es s) (hm : Sbs s m r) (ha : Ar a) (hb : Ar b) (M : AMem) (hi : M[i]? = some (.map es)) :
    ACalls Tryd.prog 13 [.map i, enc a, enc b] M (fun v M' => v = V.int 5 ∧ ∃ es' s', M' = M.set i (.map es') ∧ SMap es' s') := by
  refine (unify_ok i hU hs hm ha hb M hi).mono ?_
  rintro v M' ⟨es', x, rfl, ⟨rfl, _, _, m2, s', r', e, h1, h2⟩ | ⟨rfl, _, s', h⟩⟩
  · cases e
  · exact ⟨rfl, es', s', rfl, h⟩
def tA3 (x y z : Ty) : Ty := .app ⟨#[97, 108, 108]⟩ [x, y, z]
theorem tA3_ok (x y z : Ty) : PCalls Tryd.prog 22 [V.str ⟨#[97, 108, 108]⟩, .list .dull [enc x, enc y, enc z]] (enc (tA3 x y z)) := of_ok ⟨#[97, 108, 108]⟩ [x, y, z]
theorem tA3_T (x y z : Ty) (hx : T6 x) (hy : T6 y) (hz : T6 z) : (tA3 x y z).size ≤ 58 ∧ Ar (tA3 x y z) ∧ SN (tA3 x y z) ∧ ∀ v ∈ (tA3 x y z).vars, v < 6 := by
  have h1 := hx.size
  have h2 := hy.size
  have h3 := hz.size
  refine ⟨?_, ?_, ?_, ?_⟩
  · simp [tA3, Ty.size, Ty.sizeL]; omega
  · rw [tA3, Ar_app]; refine ⟨by simp, fun w hw => ?_⟩
    simp at hw
    rcases hw with rfl | rfl | rfl
    · exact hx.ar
    · exact hy.ar
    · exact hz.ar
  · rw [tA3, SN, SNL_iff]; refine ⟨by simp [ByteArray.size], fun w hw => ?_⟩
    simp at hw
    rcases hw with rfl | rfl | rfl
    · exact hx.sn
    · exact hy.sn
    · exact hz.sn
  · intro v hv
    obtain ⟨w, hw, hv2⟩ := Ty.mem_varsL.1 hv
    simp at hw
    rcases hw with rfl | rfl | rfl
    · exact hx.lt v hv2
    · exact hy.lt v hv2
    · exact hz.lt v hv2
/-- What is so of a type with what its variables come to. -/
structure Fin6 (t : Ty) : Prop where
  ar : Ar t
  sm : Sm t
  size : t.size ≤ 1099511627776
  lt : ∀ v ∈ t.vars, v < 6
theorem Fin6.vb {t : Ty} (h : Fin6 t) : VB t := fun v hv => by have := h.lt v hv; omega
theorem Fin6.l100 {t : Ty} (h : Fin6 t) : ∀ v ∈ t.vars, v < 100 := fun v hv => by have := h.lt v hv; omega
theorem fin6 {m : Nat → Ty} (hU : UOk m) {s : Nat → Option Ty} {r : Nat → Nat} {es : List (Value × V)} (hs : SMap es s) (hm : Sbs s m r) {t : Ty} (hA : Ar t) (hS : SN t) (hz : t.size ≤ 1000) (hlt : ∀ v ∈ t.vars, v < 6) : Fin6 (t.sub m) := by
  have harm : ∀ (k v : Nat), r v < k → Ar (m v) := by
    intro k
    induction k with
    | zero => intro v hv; omega
    | succ k ih =>
      intro v hv
      cases hsv : s v with
      | none => rw [hm.un v hsv]; trivial
      | some u =>
        rw [hm.bd v u hsv]
        have hr := hm.rank v u hsv
        have key : ∀ t : Ty, Ar t → (∀ w ∈ t.vars, r w < r v) → Ar (t.sub m) := by
          intro t ht hw
          have e : t.sub m = t.sub (fun w => if r w < r v then m w else .var w) := Ty.sub_congr fun w h => by rw [if_pos (hw w h)]
          rw [e]
          refine Ar_sub (fun w => ?_) ht
          split
          · rename_i h; exact ih w (by omega)
          · trivial
        exact key u (hs.ar v u hsv) hr
  have h1 := hU.size t
  exact ⟨Ar_sub (fun v => harm (r v + 1) v (by omega)) hA, Sm_of (SN_sub hU.sn hS) (hU.VB hlt), by omega, hU.vars hlt⟩
theorem fin6_canon {t : Ty} (h : Fin6 t) (hS : SN t) : Fin6 (canon t) :=
  ⟨canon_Ar h.ar, Sm_of (canon_SN hS) (canon_VB h.vb), by rw [canon_size]; exact h.size, canon_lt h.lt⟩
theorem like_self {t : Ty} (h : Fin6 t) (M : AMem) : ACalls Tryd.prog 15 [enc t, enc t] M (fun v M' => v = V.bool true ∧ M' = M) := by
  have h2 := h.size
  refine (like_ok t t h.ar h.sm (by omega) h.ar h.sm (by omega) M (.inl ⟨h.l100, h.l100⟩)).mono ?_
  rintro v M' ⟨rfl, rfl⟩
  rw [strEq_self]
  exact ⟨rfl, rfl⟩

set_option maxHeartbeats 16000000 in
theorem swaps_ok (la lb lc : List Nd) (oka : ∀ x ∈ la, x.ok) (okb : ∀ x ∈ lb, x.ok) (okc : ∀ x ∈ lc, x.ok) (ba : la.length ≤ 140737488355328) (bb : lb.length ≤ 140737488355328) (bc : lc.length ≤ 140737488355328) : PCalls Tryd.prog 7 [encNL la, encNL lb, encNL lc] (V.bool true) := by
  refine pcalls_of rfl fun M => ?_
  simp only [encNL]
  refine acalls_enter [.tmp 6] 127 Tryd.func7 rfl rfl rfl (by simp) ?_
  (repeat (first | refine W_seq ?_ | refine W_block ?_ | refine W_blk ?_ | refine W_skip ?_ | (refine W_region [] (by rfl) fun K hK => ?_; simp only [go_sem, Nat.reduceEqDiff, Nat.reduceLT, Nat.reduceAdd, Nat.reduceLeDiff, Nat.reduceMul, Nat.reduceSub, Int.reduceLE, Int.reduceLT, Int.reduceToNat, Int.reducePow, Int.reduceEq]; refine WRun.done _ _ (hK _ _ ?_); clear hK)))
  (repeat (first | refine W_seq ?_ | refine W_block ?_ | refine W_blk ?_ | refine W_skip ?_))
  (refine W_region [] (by rfl) fun K hK => ?_; simp only [go_sem, Nat.reduceEqDiff, Nat.reduceLT, Nat.reduceAdd, Nat.reduceLeDiff, Nat.reduceMul, Nat.reduceSub, Int.reduceLE, Int.reduceLT, Int.reduceToNat, Int.reducePow, Int.reduceEq])
  refine PCalls.use lives_ok (by simp only [go_sem, Nat.reduceEqDiff, Nat.reduceLT, Nat.reduceAdd, Nat.reduceLeDiff, Nat.reduceMul, Nat.reduceSub, Int.reduceLE, Int.reduceLT, Int.reduceToNat, Int.reducePow, Int.reduceEq]) ?_
  by_cases h9 : la.length ≤ 9 ∧ lb.length ≤ 9 ∧ lc.length ≤ 9
  · obtain ⟨h9a, h9b, h9c⟩ := h9
    have n1 : ¬ (9 : Int) < (la.length : Int) := by omega
    have n2 : ¬ (9 : Int) < (lb.length : Int) := by omega
    have n3 : ¬ (9 : Int) < (lc.length : Int) := by omega
    simp only [go_sem, Nat.reduceEqDiff, Nat.reduceLT, Nat.reduceAdd, Nat.reduceLeDiff, Nat.reduceMul, Nat.reduceSub, Int.reduceLE, Int.reduceLT, Int.reduceToNat, Int.reducePow, Int.reduceEq, n1, n2, n3]
    (refine WRun.done _ _ (hK _ _ ?_); clear hK)
    refine W_cond_false (by simp only [go_sem, Nat.reduceEqDiff, Nat.reduceLT, Nat.reduceAdd, Nat.reduceLeDiff, Nat.reduceMul, Nat.reduceSub, Int.reduceLE, Int.reduceLT, Int.reduceToNat, Int.reducePow, Int.reduceEq, n3]) ?_
    have Ta := typF_T6 h9a
    have Tb := typF_T6 h9b
    have Tc := typF_T6 h9c
    have hta := typ_ok 13 (Nat.le_refl _) la oka (by omega)
    have htb := typ_ok 13 (Nat.le_refl _) lb okb (by omega)
    have htc := typ_ok 13 (Nat.le_refl _) lc okc (by omega)
    generalize typF 13 la = A at Ta hta
    generalize typF 13 lb = B at Tb htb
    generalize typF 13 lc = C at Tc htc
    (repeat (first | refine W_seq ?_ | refine W_block ?_ | refine W_blk ?_ | refine W_skip ?_))
    (refine W_region [] (by rfl) fun K hK => ?_; simp only [go_sem, Nat.reduceEqDiff, Nat.reduceLT, Nat.reduceAdd, Nat.reduceLeDiff, Nat.reduceMul, Nat.reduceSub, Int.reduceLE, Int.reduceLT, Int.reduceToNat, Int.reducePow, Int.reduceEq])
    refine PCalls.use hta (by simp only [go_sem, Nat.reduceEqDiff, Nat.reduceLT, Nat.reduceAdd, Nat.reduceLeDiff, Nat.reduceMul, Nat.reduceSub, Int.reduceLE, Int.reduceLT, Int.reduceToNat, Int.reducePow, Int.reduceEq]) ?_
    simp only [go_sem, Nat.reduceEqDiff, Nat.reduceLT, Nat.reduceAdd, Nat.reduceLeDiff, Nat.reduceMul, Nat.reduceSub, Int.reduceLE, Int.reduceLT, Int.reduceToNat, Int.reducePow, Int.reduceEq]
    (refine WRun.done _ _ (hK _ _ ?_); clear hK)
    (repeat (first | refine W_seq ?_ | refine W_block ?_ | refine W_blk ?_ | refine W_skip ?_))
    (refine W_region [] (by rfl) fun K hK => ?_; simp only [go_sem, Nat.reduceEqDiff, Nat.reduceLT, Nat.reduceAdd, Nat.reduceLeDiff, Nat.reduceMul, Nat.reduceSub, Int.reduceLE, Int.reduceLT, Int.reduceToNat, Int.reducePow, Int.reduceEq])
    refine PCalls.use htb (by simp only [go_sem, Nat.reduceEqDiff, Nat.reduceLT, Nat.reduceAdd, Nat.reduceLeDiff, Nat.reduceMul, Nat.reduceSub, Int.reduceLE, Int.reduceLT, Int.reduceToNat, Int.reducePow, Int.reduceEq]) ?_
    simp only [go_sem, Nat.reduceEqDiff, Nat.reduceLT, Nat.reduceAdd, Nat.reduceLeDiff, Nat.reduceMul, Nat.reduceSub, Int.reduceLE, Int.reduceLT, Int.reduceToNat, Int.reducePow, Int.reduceEq]
    (refine WRun.done _ _ (hK _ _ ?_); clear hK)
    (repeat (first | refine W_seq ?_ | refine W_block ?_ | refine W_blk ?_ | refine W_skip ?_))
    (refine W_region [] (by rfl) fun K hK => ?_; simp only [go_sem, Nat.reduceEqDiff, Nat.reduceLT, Nat.reduceAdd, Nat.reduceLeDiff, Nat.reduceMul, Nat.reduceSub, Int.reduceLE, Int.reduceLT, Int.reduceToNat, Int.reducePow, Int.reduceEq])
    refine PCalls.use htc (by simp only [go_sem, Nat.reduceEqDiff, Nat.reduceLT, Nat.reduceAdd, Nat.reduceLeDiff, Nat.reduceMul, Nat.reduceSub, Int.reduceLE, Int.reduceLT, Int.reduceToNat, Int.reducePow, Int.reduceEq]) ?_
    simp only [go_sem, Nat.reduceEqDiff, Nat.reduceLT, Nat.reduceAdd, Nat.reduceLeDiff, Nat.reduceMul, Nat.reduceSub, Int.reduceLE, Int.reduceLT, Int.reduceToNat, Int.reducePow, Int.reduceEq]
    (refine WRun.done _ _ (hK _ _ ?_); clear hK)
    (repeat (first | refine W_seq ?_ | refine W_block ?_ | refine W_blk ?_ | refine W_skip ?_))
    (refine W_region [] (by rfl) fun K hK => ?_; simp only [go_sem, Nat.reduceEqDiff, Nat.reduceLT, Nat.reduceAdd, Nat.reduceLeDiff, Nat.reduceMul, Nat.reduceSub, Int.reduceLE, Int.reduceLT, Int.reduceToNat, Int.reducePow, Int.reduceEq])
    (refine WRun.done _ _ (hK _ _ ?_); clear hK)
    obtain ⟨M1, hM1⟩ : ∃ M1, M1 = M ++ [AObj.cells (tcells A.1)] ++ [AObj.cells (tcells B.1)] ++ [AObj.cells (tcells C.1)] ++ [AObj.map []] ++ [AObj.map []] := ⟨_, rfl⟩
    have hx1 : Ext M M1 := by rw [hM1]; exact (((((Ext.refl M).app _).app _).app _).app _).app _
    have h7 : M1[M.length]? = some (.cells (tcells A.1)) := by rw [hM1]; exact at_app (at_app (at_app (at_app (at_snoc rfl))))
    have h9_ : M1[M.length + 1]? = some (.cells (tcells B.1)) := by rw [hM1]; exact at_app (at_app (at_app (at_snoc (by simp))))
    have h11 : M1[M.length + 1 + 1]? = some (.cells (tcells C.1)) := by rw [hM1]; exact at_app (at_app (at_snoc (by simp)))
    have hs1 : M1[M.length + 1 + 1 + 1]? = some (.map []) := by rw [hM1]; exact at_app (at_snoc (by simp))
    have ht1 : M1[M.length + 1 + 1 + 1 + 1]? = some (.map []) := by rw [hM1]; exact at_snoc (by simp)
    rw [← hM1]
    clear hM1
    obtain ⟨res, res', c, c', u1, u2, hcase⟩ := swap_alike Ta Tb
    have ra := Ta.ar
    have rb := Tb.ar
    have rc := Tc.ar
    (repeat (first | refine W_seq ?_ | refine W_block ?_ | refine W_blk ?_ | refine W_skip ?_))
    (refine W_draw [] (fun X => X[M.length]? = some (.cells (tcells A.1)) ∧ X[M.length + 1]? = some (.cells (tcells B.1))) mixed_ (by rfl) ?_ fun K hK => ?_)
    · exact ⟨h7, h9_⟩
    (refine DR_quiet [0, 1, 2, 4, 5, 6] (by decide +kernel) (fun M_ hS_ => ?_) (fun K2 hK2 => ?_); (focus (simp only [go_sem, Nat.reduceEqDiff, Nat.reduceLT, Nat.reduceAdd, Nat.reduceLeDiff, Nat.reduceMul, Nat.reduceSub, Int.reduceLE, Int.reduceLT, Int.reduceToNat, Int.reducePow, Int.reduceEq, hS_, h7, h9_])); simp only [go_sem, Nat.reduceEqDiff, Nat.reduceLT, Nat.reduceAdd, Nat.reduceLeDiff, Nat.reduceMul, Nat.reduceSub, Int.reduceLE, Int.reduceLT, Int.reduceToNat, Int.reducePow, Int.reduceEq, h7, h9_]; refine hK2 _ ?_; clear hK2)
    rcases hcase with ⟨rfl, rfl⟩ | ⟨m, m', rfl, rfl, hc, hc', hU, hU', heq, hcan⟩
    · (refine DR_sole' 3 (by decide +kernel) (by simp only [go_sem, Nat.reduceEqDiff, Nat.reduceLT, Nat.reduceAdd, Nat.reduceLeDiff, Nat.reduceMul, Nat.reduceSub, Int.reduceLE, Int.reduceLT, Int.reduceToNat, Int.reducePow, Int.reduceEq]) ?_; simp only [go_sem, Nat.reduceEqDiff, Nat.reduceLT, Nat.reduceAdd, Nat.reduceLeDiff, Nat.reduceMul, Nat.reduceSub, Int.reduceLE, Int.reduceLT, Int.reduceToNat, Int.reducePow, Int.reduceEq])
      refine ACalls.at (unify_none (M.length + 1 + 1 + 1) u1 SMap.start Sbs.start ra rb M1 hs1) (by simp only [go_sem, Nat.reduceEqDiff, Nat.reduceLT, Nat.reduceAdd, Nat.reduceLeDiff, Nat.reduceMul, Nat.reduceSub, Int.reduceLE, Int.reduceLT, Int.reduceToNat, Int.reducePow, Int.reduceEq, enc_eq]) ?_
      rintro v Mv ⟨rfl, es2, s2, rfl, k1⟩
      have h72 : (M1.set (M.length + 1 + 1 + 1) (.map es2))[M.length]? = some (.cells (tcells A.1)) := by rw [List.getElem?_set_ne (by omega)]; exact h7
      have h92 : (M1.set (M.length + 1 + 1 + 1) (.map es2))[M.length + 1]? = some (.cells (tcells B.1)) := by rw [List.getElem?_set_ne (by omega)]; exact h9_
      have ht2 : (M1.set (M.length + 1 + 1 + 1) (.map es2))[M.length + 1 + 1 + 1 + 1]? = some (.map []) := by rw [List.getElem?_set_ne (by omega)]; exact ht1
      have hx2 := hx1.set (k := M.length + 1 + 1 + 1) (by omega) (.map es2)
      refine ⟨⟨h72, h92⟩, ?_⟩
      (refine DR_sole' 7 (by decide +kernel) (by simp only [go_sem, Nat.reduceEqDiff, Nat.reduceLT, Nat.reduceAdd, Nat.reduceLeDiff, Nat.reduceMul, Nat.reduceSub, Int.reduceLE, Int.reduceLT, Int.reduceToNat, Int.reducePow, Int.reduceEq]) ?_; simp only [go_sem, Nat.reduceEqDiff, Nat.reduceLT, Nat.reduceAdd, Nat.reduceLeDiff, Nat.reduceMul, Nat.reduceSub, Int.reduceLE, Int.reduceLT, Int.reduceToNat, Int.reducePow, Int.reduceEq])
      refine ACalls.at (unify_none (M.length + 1 + 1 + 1 + 1) u2 SMap.start Sbs.start rb ra _ ht2) (by simp only [go_sem, Nat.reduceEqDiff, Nat.reduceLT, Nat.reduceAdd, Nat.reduceLeDiff, Nat.reduceMul, Nat.reduceSub, Int.reduceLE, Int.reduceLT, Int.reduceToNat, Int.reducePow, Int.reduceEq, enc_eq]) ?_
      rintro v Mv ⟨rfl, es3, s3, rfl, k2⟩
      have h73 : ((M1.set (M.length + 1 + 1 + 1) (.map es2)).set (M.length + 1 + 1 + 1 + 1) (.map es3))[M.length]? = some (.cells (tcells A.1)) := by rw [List.getElem?_set_ne (by omega)]; exact h72
      have h93 : ((M1.set (M.length + 1 + 1 + 1) (.map es2)).set (M.length + 1 + 1 + 1 + 1) (.map es3))[M.length + 1]? = some (.cells (tcells B.1)) := by rw [List.getElem?_set_ne (by omega)]; exact h92
      have hx3 := hx2.set (k := M.length + 1 + 1 + 1 + 1) (by omega) (.map es3)
      refine ⟨⟨h73, h93⟩, ?_⟩
      (refine DR_quiet [8, 9] (by decide +kernel) (fun M_ hS_ => ?_) (fun K2 hK2 => ?_); (focus (simp only [go_sem, Nat.reduceEqDiff, Nat.reduceLT, Nat.reduceAdd, Nat.reduceLeDiff, Nat.reduceMul, Nat.reduceSub, Int.reduceLE, Int.reduceLT, Int.reduceToNat, Int.reducePow, Int.reduceEq, hS_])); simp only [go_sem, Nat.reduceEqDiff, Nat.reduceLT, Nat.reduceAdd, Nat.reduceLeDiff, Nat.reduceMul, Nat.reduceSub, Int.reduceLE, Int.reduceLT, Int.reduceToNat, Int.reducePow, Int.reduceEq]; refine hK2 _ ?_; clear hK2)
      (refine DR_end (by decide +kernel) (hK _ _ ?_); clear hK)
      (repeat (first | refine W_seq ?_ | refine W_block ?_ | refine W_blk ?_ | refine W_skip ?_ | (refine W_region [] (by rfl) fun K hK => ?_; simp only [go_sem, Nat.reduceEqDiff, Nat.reduceLT, Nat.reduceAdd, Nat.reduceLeDiff, Nat.reduceMul, Nat.reduceSub, Int.reduceLE, Int.reduceLT, Int.reduceToNat, Int.reducePow, Int.reduceEq]; refine WRun.done _ _ (hK _ _ ?_); clear hK)))
      refine W_cond_false (by simp only [go_sem, Nat.reduceEqDiff, Nat.reduceLT, Nat.reduceAdd, Nat.reduceLeDiff, Nat.reduceMul, Nat.reduceSub, Int.reduceLE, Int.reduceLT, Int.reduceToNat, Int.reducePow, Int.reduceEq]) ?_
      (repeat (first | refine W_seq ?_ | refine W_block ?_ | refine W_blk ?_ | refine W_skip ?_ | (refine W_region [] (by rfl) fun K hK => ?_; simp only [go_sem, Nat.reduceEqDiff, Nat.reduceLT, Nat.reduceAdd, Nat.reduceLeDiff, Nat.reduceMul, Nat.reduceSub, Int.reduceLE, Int.reduceLT, Int.reduceToNat, Int.reducePow, Int.reduceEq]; refine WRun.done _ _ (hK _ _ ?_); clear hK)))
      refine W_cond_true (by simp only [go_sem, Nat.reduceEqDiff, Nat.reduceLT, Nat.reduceAdd, Nat.reduceLeDiff, Nat.reduceMul, Nat.reduceSub, Int.reduceLE, Int.reduceLT, Int.reduceToNat, Int.reducePow, Int.reduceEq]) ?_
      (repeat (first | refine W_seq ?_ | refine W_block ?_ | refine W_blk ?_ | refine W_skip ?_ | (refine W_region [] (by rfl) fun K hK => ?_; simp only [go_sem, Nat.reduceEqDiff, Nat.reduceLT, Nat.reduceAdd, Nat.reduceLeDiff, Nat.reduceMul, Nat.reduceSub, Int.reduceLE, Int.reduceLT, Int.reduceToNat, Int.reducePow, Int.reduceEq]; refine WRun.done _ _ (hK _ _ ?_); clear hK)))
      refine W_ret ?_
      simp only [go_sem, Nat.reduceEqDiff, Nat.reduceLT, Nat.reduceAdd, Nat.reduceLeDiff, Nat.reduceMul, Nat.reduceSub, Int.reduceLE, Int.reduceLT, Int.reduceToNat, Int.reducePow, Int.reduceEq]
      exact hx3.out
    · (refine DR_sole' 3 (by decide +kernel) (by simp only [go_sem, Nat.reduceEqDiff, Nat.reduceLT, Nat.reduceAdd, Nat.reduceLeDiff, Nat.reduceMul, Nat.reduceSub, Int.reduceLE, Int.reduceLT, Int.reduceToNat, Int.reducePow, Int.reduceEq]) ?_; simp only [go_sem, Nat.reduceEqDiff, Nat.reduceLT, Nat.reduceAdd, Nat.reduceLeDiff, Nat.reduceMul, Nat.reduceSub, Int.reduceLE, Int.reduceLT, Int.reduceToNat, Int.reducePow, Int.reduceEq])
      refine ACalls.at (unify_some (M.length + 1 + 1 + 1) u1 hc SMap.start Sbs.start ra rb M1 hs1) (by simp only [go_sem, Nat.reduceEqDiff, Nat.reduceLT, Nat.reduceAdd, Nat.reduceLeDiff, Nat.reduceMul, Nat.reduceSub, Int.reduceLE, Int.reduceLT, Int.reduceToNat, Int.reducePow, Int.reduceEq, enc_eq]) ?_
      rintro v Mv ⟨rfl, es2, s2, r2, rfl, k1, k2⟩
      have h72 : (M1.set (M.length + 1 + 1 + 1) (.map es2))[M.length]? = some (.cells (tcells A.1)) := by rw [List.getElem?_set_ne (by omega)]; exact h7
      have h92 : (M1.set (M.length + 1 + 1 + 1) (.map es2))[M.length + 1]? = some (.cells (tcells B.1)) := by rw [List.getElem?_set_ne (by omega)]; exact h9_
      have h112 : (M1.set (M.length + 1 + 1 + 1) (.map es2))[M.length + 1 + 1]? = some (.cells (tcells C.1)) := by rw [List.getElem?_set_ne (by omega)]; exact h11
      have ht2 : (M1.set (M.length + 1 + 1 + 1) (.map es2))[M.length + 1 + 1 + 1 + 1]? = some (.map []) := by rw [List.getElem?_set_ne (by omega)]; exact ht1
      have hs2 : (M1.set (M.length + 1 + 1 + 1) (.map es2))[M.length + 1 + 1 + 1]? = some (.map es2) := List.getElem?_set_self (List.getElem?_eq_some_iff.1 hs1).1
      have hx2 := hx1.set (k := M.length + 1 + 1 + 1) (by omega) (.map es2)
      refine ⟨⟨h72, h92⟩, ?_⟩
      generalize M1.set (M.length + 1 + 1 + 1) (.map es2) = M2 at h72 h92 h112 ht2 hs2 hx2 ⊢
      (refine DR_sole' 7 (by decide +kernel) (by simp only [go_sem, Nat.reduceEqDiff, Nat.reduceLT, Nat.reduceAdd, Nat.reduceLeDiff, Nat.reduceMul, Nat.reduceSub, Int.reduceLE, Int.reduceLT, Int.reduceToNat, Int.reducePow, Int.reduceEq]) ?_; simp only [go_sem, Nat.reduceEqDiff, Nat.reduceLT, Nat.reduceAdd, Nat.reduceLeDiff, Nat.reduceMul, Nat.reduceSub, Int.reduceLE, Int.reduceLT, Int.reduceToNat, Int.reducePow, Int.reduceEq])
      refine ACalls.at (unify_some (M.length + 1 + 1 + 1 + 1) u2 hc' SMap.start Sbs.start rb ra _ ht2) (by simp only [go_sem, Nat.reduceEqDiff, Nat.reduceLT, Nat.reduceAdd, Nat.reduceLeDiff, Nat.reduceMul, Nat.reduceSub, Int.reduceLE, Int.reduceLT, Int.reduceToNat, Int.reducePow, Int.reduceEq, enc_eq]) ?_
      rintro v Mv ⟨rfl, es3, s3, r3, rfl, k3, k4⟩
      have h73 : (M2.set (M.length + 1 + 1 + 1 + 1) (.map es3))[M.length]? = some (.cells (tcells A.1)) := by rw [List.getElem?_set_ne (by omega)]; exact h72
      have h93 : (M2.set (M.length + 1 + 1 + 1 + 1) (.map es3))[M.length + 1]? = some (.cells (tcells B.1)) := by rw [List.getElem?_set_ne (by omega)]; exact h92
      have h113 : (M2.set (M.length + 1 + 1 + 1 + 1) (.map es3))[M.length + 1 + 1]? = some (.cells (tcells C.1)) := by rw [List.getElem?_set_ne (by omega)]; exact h112
      have hs3 : (M2.set (M.length + 1 + 1 + 1 + 1) (.map es3))[M.length + 1 + 1 + 1]? = some (.map es2) := by rw [List.getElem?_set_ne (by omega)]; exact hs2
      have ht3 : (M2.set (M.length + 1 + 1 + 1 + 1) (.map es3))[M.length + 1 + 1 + 1 + 1]? = some (.map es3) := List.getElem?_set_self (List.getElem?_eq_some_iff.1 ht2).1
      have hx3 := hx2.set (k := M.length + 1 + 1 + 1 + 1) (by omega) (.map es3)
      refine ⟨⟨h73, h93⟩, ?_⟩
      (refine DR_quiet [8, 9] (by decide +kernel) (fun M_ hS_ => ?_) (fun K2 hK2 => ?_); (focus (simp only [go_sem, Nat.reduceEqDiff, Nat.reduceLT, Nat.reduceAdd, Nat.reduceLeDiff, Nat.reduceMul, Nat.reduceSub, Int.reduceLE, Int.reduceLT, Int.reduceToNat, Int.reducePow, Int.reduceEq, hS_])); simp only [go_sem, Nat.reduceEqDiff, Nat.reduceLT, Nat.reduceAdd, Nat.reduceLeDiff, Nat.reduceMul, Nat.reduceSub, Int.reduceLE, Int.reduceLT, Int.reduceToNat, Int.reducePow, Int.reduceEq]; refine hK2 _ ?_; clear hK2)
      (refine DR_end (by decide +kernel) (hK _ _ ?_); clear hK)
      generalize M2.set (M.length + 1 + 1 + 1 + 1) (.map es3) = M3 at h73 h93 h113 hs3 ht3 hx3 ⊢
      clear h72 h92 h112 ht2 hs2 hx2 h7 h9_ h11 hs1 ht1 hx1
      (repeat (first | refine W_seq ?_ | refine W_block ?_ | refine W_blk ?_ | refine W_skip ?_ | (refine W_region [] (by rfl) fun K hK => ?_; simp only [go_sem, Nat.reduceEqDiff, Nat.reduceLT, Nat.reduceAdd, Nat.reduceLeDiff, Nat.reduceMul, Nat.reduceSub, Int.reduceLE, Int.reduceLT, Int.reduceToNat, Int.reducePow, Int.reduceEq]; refine WRun.done _ _ (hK _ _ ?_); clear hK)))
      refine W_cond_false (by simp only [go_sem, Nat.reduceEqDiff, Nat.reduceLT, Nat.reduceAdd, Nat.reduceLeDiff, Nat.reduceMul, Nat.reduceSub, Int.reduceLE, Int.reduceLT, Int.reduceToNat, Int.reducePow, Int.reduceEq]) ?_
      (repeat (first | refine W_seq ?_ | refine W_block ?_ | refine W_blk ?_ | refine W_skip ?_ | (refine W_region [] (by rfl) fun K hK => ?_; simp only [go_sem, Nat.reduceEqDiff, Nat.reduceLT, Nat.reduceAdd, Nat.reduceLeDiff, Nat.reduceMul, Nat.reduceSub, Int.reduceLE, Int.reduceLT, Int.reduceToNat, Int.reducePow, Int.reduceEq]; refine WRun.done _ _ (hK _ _ ?_); clear hK)))
      refine W_cond_false (by simp only [go_sem, Nat.reduceEqDiff, Nat.reduceLT, Nat.reduceAdd, Nat.reduceLeDiff, Nat.reduceMul, Nat.reduceSub, Int.reduceLE, Int.reduceLT, Int.reduceToNat, Int.reducePow, Int.reduceEq]) ?_
      (repeat (first | refine W_seq ?_ | refine W_block ?_ | refine W_blk ?_ | refine W_skip ?_))
      (refine W_region [] (by rfl) fun K hK => ?_; simp only [go_sem, Nat.reduceEqDiff, Nat.reduceLT, Nat.reduceAdd, Nat.reduceLeDiff, Nat.reduceMul, Nat.reduceSub, Int.reduceLE, Int.reduceLT, Int.reduceToNat, Int.reducePow, Int.reduceEq, h73, h93, h113])
      refine PCalls.use (tA3_ok A.1 B.1 C.1) (by simp only [go_sem, Nat.reduceEqDiff, Nat.reduceLT, Nat.reduceAdd, Nat.reduceLeDiff, Nat.reduceMul, Nat.reduceSub, Int.reduceLE, Int.reduceLT, Int.reduceToNat, Int.reducePow, Int.reduceEq, enc_eq]) ?_
      simp only [go_sem, Nat.reduceEqDiff, Nat.reduceLT, Nat.reduceAdd, Nat.reduceLeDiff, Nat.reduceMul, Nat.reduceSub, Int.reduceLE, Int.reduceLT, Int.reduceToNat, Int.reducePow, Int.reduceEq]
      (refine WRun.done _ _ (hK _ _ ?_); clear hK)
      obtain ⟨aZ, aA, aS, aL⟩ := tA3_T A.1 B.1 C.1 Ta Tb Tc
      generalize hall : tA3 A.1 B.1 C.1 = all at aZ aA aS aL ⊢
      have za := Ta.size
      have zb := Tb.size
      have zc := Tc.size
      have idm := hU.idem
      have h74 := at_app (Y := [AObj.cells (tcells all)]) h73
      have h94 := at_app (Y := [AObj.cells (tcells all)]) h93
      have h114 := at_app (Y := [AObj.cells (tcells all)]) h113
      have hs4 := at_app (Y := [AObj.cells (tcells all)]) hs3
      have ht4 := at_app (Y := [AObj.cells (tcells all)]) ht3
      have hx4 := hx3.app [AObj.cells (tcells all)]
      have h174 : (M3 ++ [AObj.cells (tcells all)])[M3.length]? = some (.cells (tcells all)) := at_snoc rfl
      have hl4 : (M3 ++ [AObj.cells (tcells all)]).length = M3.length + 1 := by simp
      generalize M3 ++ [AObj.cells (tcells all)] = M4 at h74 h94 h114 hs4 ht4 hx4 h174 hl4 ⊢
      (repeat (first | refine W_seq ?_ | refine W_block ?_ | refine W_blk ?_ | refine W_skip ?_))
      (refine W_region [] (by rfl) fun K hK => ?_; simp only [go_sem, Nat.reduceEqDiff, Nat.reduceLT, Nat.reduceAdd, Nat.reduceLeDiff, Nat.reduceMul, Nat.reduceSub, Int.reduceLE, Int.reduceLT, Int.reduceToNat, Int.reducePow, Int.reduceEq, h174])
      refine ACalls.use (apply_ok k1 k2 (M.length + 1 + 1 + 1) _ all (Nat.le_refl _) aA M4 hs4) (by simp only [go_sem, Nat.reduceEqDiff, Nat.reduceLT, Nat.reduceAdd, Nat.reduceLeDiff, Nat.reduceMul, Nat.reduceSub, Int.reduceLE, Int.reduceLT, Int.reduceToNat, Int.reducePow, Int.reduceEq, enc_eq]) ?_
      rintro v Mv ⟨rfl, hMv⟩
      subst Mv
      simp only [go_sem, Nat.reduceEqDiff, Nat.reduceLT, Nat.reduceAdd, Nat.reduceLeDiff, Nat.reduceMul, Nat.reduceSub, Int.reduceLE, Int.reduceLT, Int.reduceToNat, Int.reducePow, Int.reduceEq]
      (refine WRun.done _ _ (hK _ _ ?_); clear hK)
      have F1 := fin6 hU k1 k2 aA aS (by omega) aL
      have S1 := SN_sub hU.sn aS
      have F1' := fin6 hU' k3 k4 aA aS (by omega) aL
      have FC := fin6_canon F1 S1
      obtain ⟨one, hone⟩ : ∃ one, one = all.sub m := ⟨_, rfl⟩
      rw [← hone] at F1 S1 FC ⊢
      have hone2 : one.sub m = one := by rw [hone]; exact idm.sub all
      have h75 := at_app (Y := [AObj.cells (tcells one)]) h74
      have h95 := at_app (Y := [AObj.cells (tcells one)]) h94
      have h115 := at_app (Y := [AObj.cells (tcells one)]) h114
      have hs5 := at_app (Y := [AObj.cells (tcells one)]) hs4
      have ht5 := at_app (Y := [AObj.cells (tcells one)]) ht4
      have hx5 := hx4.app [AObj.cells (tcells one)]
      have h175 := at_app (Y := [AObj.cells (tcells one)]) h174
      have h185 : (M4 ++ [AObj.cells (tcells one)])[M4.length]? = some (.cells (tcells one)) := at_snoc rfl
      generalize M4 ++ [AObj.cells (tcells one)] = M5 at h75 h95 h115 hs5 ht5 hx5 h175 h185 ⊢
      (repeat (first | refine W_seq ?_ | refine W_block ?_ | refine W_blk ?_ | refine W_skip ?_))
      (refine W_draw [] (fun X => X = M5) mixed_ (by rfl) ?_ fun K hK => ?_)
      · rfl
      (refine DR_quiet [0, 2, 3] (by decide +kernel) (fun M_ hS_ => ?_) (fun K2 hK2 => ?_); (focus (simp only [go_sem, Nat.reduceEqDiff, Nat.reduceLT, Nat.reduceAdd, Nat.reduceLeDiff, Nat.reduceMul, Nat.reduceSub, Int.reduceLE, Int.reduceLT, Int.reduceToNat, Int.reducePow, Int.reduceEq, hS_, h185, h175])); simp only [go_sem, Nat.reduceEqDiff, Nat.reduceLT, Nat.reduceAdd, Nat.reduceLeDiff, Nat.reduceMul, Nat.reduceSub, Int.reduceLE, Int.reduceLT, Int.reduceToNat, Int.reducePow, Int.reduceEq, h185, h175]; refine hK2 _ ?_; clear hK2)
      (refine DR_sole' 1 (by decide +kernel) (by simp only [go_sem, Nat.reduceEqDiff, Nat.reduceLT, Nat.reduceAdd, Nat.reduceLeDiff, Nat.reduceMul, Nat.reduceSub, Int.reduceLE, Int.reduceLT, Int.reduceToNat, Int.reducePow, Int.reduceEq]) ?_; simp only [go_sem, Nat.reduceEqDiff, Nat.reduceLT, Nat.reduceAdd, Nat.reduceLeDiff, Nat.reduceMul, Nat.reduceSub, Int.reduceLE, Int.reduceLT, Int.reduceToNat, Int.reducePow, Int.reduceEq])
      refine PCalls.at (ucanon_ok one F1.ar F1.vb) (by simp only [go_sem, Nat.reduceEqDiff, Nat.reduceLT, Nat.reduceAdd, Nat.reduceLeDiff, Nat.reduceMul, Nat.reduceSub, Int.reduceLE, Int.reduceLT, Int.reduceToNat, Int.reducePow, Int.reduceEq, enc_eq]) ⟨rfl, ?_⟩
      (refine DR_sole' 4 (by decide +kernel) (by simp only [go_sem, Nat.reduceEqDiff, Nat.reduceLT, Nat.reduceAdd, Nat.reduceLeDiff, Nat.reduceMul, Nat.reduceSub, Int.reduceLE, Int.reduceLT, Int.reduceToNat, Int.reducePow, Int.reduceEq]) ?_; simp only [go_sem, Nat.reduceEqDiff, Nat.reduceLT, Nat.reduceAdd, Nat.reduceLeDiff, Nat.reduceMul, Nat.reduceSub, Int.reduceLE, Int.reduceLT, Int.reduceToNat, Int.reducePow, Int.reduceEq])
      refine ACalls.at (apply_ok k3 k4 (M.length + 1 + 1 + 1 + 1) _ all (Nat.le_refl _) aA M5 ht5) (by simp only [go_sem, Nat.reduceEqDiff, Nat.reduceLT, Nat.reduceAdd, Nat.reduceLeDiff, Nat.reduceMul, Nat.reduceSub, Int.reduceLE, Int.reduceLT, Int.reduceToNat, Int.reducePow, Int.reduceEq, enc_eq]) ?_
      rintro v Mv ⟨rfl, hMv⟩
      subst Mv
      refine ⟨rfl, ?_⟩
      (refine DR_sole' 5 (by decide +kernel) (by simp only [go_sem, Nat.reduceEqDiff, Nat.reduceLT, Nat.reduceAdd, Nat.reduceLeDiff, Nat.reduceMul, Nat.reduceSub, Int.reduceLE, Int.reduceLT, Int.reduceToNat, Int.reducePow, Int.reduceEq]) ?_; simp only [go_sem, Nat.reduceEqDiff, Nat.reduceLT, Nat.reduceAdd, Nat.reduceLeDiff, Nat.reduceMul, Nat.reduceSub, Int.reduceLE, Int.reduceLT, Int.reduceToNat, Int.reducePow, Int.reduceEq])
      refine PCalls.at (ucanon_ok (all.sub m') F1'.ar F1'.vb) (by simp only [go_sem, Nat.reduceEqDiff, Nat.reduceLT, Nat.reduceAdd, Nat.reduceLeDiff, Nat.reduceMul, Nat.reduceSub, Int.reduceLE, Int.reduceLT, Int.reduceToNat, Int.reducePow, Int.reduceEq, enc_eq]) ⟨rfl, ?_⟩
      rw [hcan all, ← hone]
      (refine DR_sole' 6 (by decide +kernel) (by simp only [go_sem, Nat.reduceEqDiff, Nat.reduceLT, Nat.reduceAdd, Nat.reduceLeDiff, Nat.reduceMul, Nat.reduceSub, Int.reduceLE, Int.reduceLT, Int.reduceToNat, Int.reducePow, Int.reduceEq]) ?_; simp only [go_sem, Nat.reduceEqDiff, Nat.reduceLT, Nat.reduceAdd, Nat.reduceLeDiff, Nat.reduceMul, Nat.reduceSub, Int.reduceLE, Int.reduceLT, Int.reduceToNat, Int.reducePow, Int.reduceEq])
      refine ACalls.at (like_self FC M5) (by simp only [go_sem, Nat.reduceEqDiff, Nat.reduceLT, Nat.reduceAdd, Nat.reduceLeDiff, Nat.reduceMul, Nat.reduceSub, Int.reduceLE, Int.reduceLT, Int.reduceToNat, Int.reducePow, Int.reduceEq]) ?_
      rintro v Mv ⟨rfl, hMv⟩
      subst Mv
      refine ⟨rfl, ?_⟩
      (refine DR_quiet [7, 8, 9, 10, 12] (by decide +kernel) (fun M_ hS_ => ?_) (fun K2 hK2 => ?_); (focus (simp only [go_sem, Nat.reduceEqDiff, Nat.reduceLT, Nat.reduceAdd, Nat.reduceLeDiff, Nat.reduceMul, Nat.reduceSub, Int.reduceLE, Int.reduceLT, Int.reduceToNat, Int.reducePow, Int.reduceEq, hS_, h185])); simp only [go_sem, Nat.reduceEqDiff, Nat.reduceLT, Nat.reduceAdd, Nat.reduceLeDiff, Nat.reduceMul, Nat.reduceSub, Int.reduceLE, Int.reduceLT, Int.reduceToNat, Int.reducePow, Int.reduceEq, h185]; refine hK2 _ ?_; clear hK2)
      (refine DR_sole' 11 (by decide +kernel) (by simp only [go_sem, Nat.reduceEqDiff, Nat.reduceLT, Nat.reduceAdd, Nat.reduceLeDiff, Nat.reduceMul, Nat.reduceSub, Int.reduceLE, Int.reduceLT, Int.reduceToNat, Int.reducePow, Int.reduceEq]) ?_; simp only [go_sem, Nat.reduceEqDiff, Nat.reduceLT, Nat.reduceAdd, Nat.reduceLeDiff, Nat.reduceMul, Nat.reduceSub, Int.reduceLE, Int.reduceLT, Int.reduceToNat, Int.reducePow, Int.reduceEq])
      refine ACalls.at (apply_ok k1 k2 (M.length + 1 + 1 + 1) _ one (Nat.le_refl _) F1.ar M5 hs5) (by simp only [go_sem, Nat.reduceEqDiff, Nat.reduceLT, Nat.reduceAdd, Nat.reduceLeDiff, Nat.reduceMul, Nat.reduceSub, Int.reduceLE, Int.reduceLT, Int.reduceToNat, Int.reducePow, Int.reduceEq, enc_eq]) ?_
      rintro v Mv ⟨rfl, hMv⟩
      subst Mv
      rw [hone2]
      refine ⟨rfl, ?_⟩
      (refine DR_sole' 13 (by decide +kernel) (by simp only [go_sem, Nat.reduceEqDiff, Nat.reduceLT, Nat.reduceAdd, Nat.reduceLeDiff, Nat.reduceMul, Nat.reduceSub, Int.reduceLE, Int.reduceLT, Int.reduceToNat, Int.reducePow, Int.reduceEq]) ?_; simp only [go_sem, Nat.reduceEqDiff, Nat.reduceLT, Nat.reduceAdd, Nat.reduceLeDiff, Nat.reduceMul, Nat.reduceSub, Int.reduceLE, Int.reduceLT, Int.reduceToNat, Int.reducePow, Int.reduceEq])
      refine ACalls.at (like_self F1 M5) (by simp only [go_sem, Nat.reduceEqDiff, Nat.reduceLT, Nat.reduceAdd, Nat.reduceLeDiff, Nat.reduceMul, Nat.reduceSub, Int.reduceLE, Int.reduceLT, Int.reduceToNat, Int.reducePow, Int.reduceEq, enc_eq]) ?_
      rintro v Mv ⟨rfl, hMv⟩
      subst Mv
      refine ⟨rfl, ?_⟩
      (refine DR_quiet [14, 15] (by decide +kernel) (fun M_ hS_ => ?_) (fun K2 hK2 => ?_); (focus (simp only [go_sem, Nat.reduceEqDiff, Nat.reduceLT, Nat.reduceAdd, Nat.reduceLeDiff, Nat.reduceMul, Nat.reduceSub, Int.reduceLE, Int.reduceLT, Int.reduceToNat, Int.reducePow, Int.reduceEq, hS_])); simp only [go_sem, Nat.reduceEqDiff, Nat.reduceLT, Nat.reduceAdd, Nat.reduceLeDiff, Nat.reduceMul, Nat.reduceSub, Int.reduceLE, Int.reduceLT, Int.reduceToNat, Int.reducePow, Int.reduceEq]; refine hK2 _ ?_; clear hK2)
      (refine DR_end (by decide +kernel) (hK _ _ ?_); clear hK)
      refine W_cond_false (by simp only [go_sem, Nat.reduceEqDiff, Nat.reduceLT, Nat.reduceAdd, Nat.reduceLeDiff, Nat.reduceMul, Nat.reduceSub, Int.reduceLE, Int.reduceLT, Int.reduceToNat, Int.reducePow, Int.reduceEq]) ?_
      obtain ⟨res3, c3, u3, hres3, _⟩ := hU.step2 Ta Tc
      cases res3 with
      | none =>
        (repeat (first | refine W_seq ?_ | refine W_block ?_ | refine W_blk ?_ | refine W_skip ?_))
        (refine W_region [] (by rfl) fun K hK => ?_; simp only [go_sem, Nat.reduceEqDiff, Nat.reduceLT, Nat.reduceAdd, Nat.reduceLeDiff, Nat.reduceMul, Nat.reduceSub, Int.reduceLE, Int.reduceLT, Int.reduceToNat, Int.reducePow, Int.reduceEq, h75, h115])
        refine ACalls.use (unify_none (M.length + 1 + 1 + 1) u3 k1 k2 ra rc M5 hs5) (by simp only [go_sem, Nat.reduceEqDiff, Nat.reduceLT, Nat.reduceAdd, Nat.reduceLeDiff, Nat.reduceMul, Nat.reduceSub, Int.reduceLE, Int.reduceLT, Int.reduceToNat, Int.reducePow, Int.reduceEq, enc_eq]) ?_
        rintro r' M6 ⟨rfl, es6, s6, rfl, _⟩
        have hx6 := hx5.set (k := M.length + 1 + 1 + 1) (by omega) (.map es6)
        simp only [go_sem, Nat.reduceEqDiff, Nat.reduceLT, Nat.reduceAdd, Nat.reduceLeDiff, Nat.reduceMul, Nat.reduceSub, Int.reduceLE, Int.reduceLT, Int.reduceToNat, Int.reducePow, Int.reduceEq]
        (refine WRun.done _ _ (hK _ _ ?_); clear hK)
        refine W_cond_true (by simp only [go_sem, Nat.reduceEqDiff, Nat.reduceLT, Nat.reduceAdd, Nat.reduceLeDiff, Nat.reduceMul, Nat.reduceSub, Int.reduceLE, Int.reduceLT, Int.reduceToNat, Int.reducePow, Int.reduceEq]) ?_
        (repeat (first | refine W_seq ?_ | refine W_block ?_ | refine W_blk ?_ | refine W_skip ?_ | (refine W_region [] (by rfl) fun K hK => ?_; simp only [go_sem, Nat.reduceEqDiff, Nat.reduceLT, Nat.reduceAdd, Nat.reduceLeDiff, Nat.reduceMul, Nat.reduceSub, Int.reduceLE, Int.reduceLT, Int.reduceToNat, Int.reducePow, Int.reduceEq]; refine WRun.done _ _ (hK _ _ ?_); clear hK)))
        refine W_ret ?_
        simp only [go_sem, Nat.reduceEqDiff, Nat.reduceLT, Nat.reduceAdd, Nat.reduceLeDiff, Nat.reduceMul, Nat.reduceSub, Int.reduceLE, Int.reduceLT, Int.reduceToNat, Int.reducePow, Int.reduceEq]
        exact hx6.out
      | some m3 =>
        obtain ⟨hc3, hU3, heq3, _, _⟩ := hres3 m3 rfl
        have rm3 : Resp m m3 := (u3.resp rfl idm).2
        have idm3 := hU3.idem
        have hxy : A.1.sub m3 = B.1.sub m3 := by rw [← rm3.sub A.1, ← rm3.sub B.1, heq]
        (repeat (first | refine W_seq ?_ | refine W_block ?_ | refine W_blk ?_ | refine W_skip ?_))
        (refine W_region [] (by rfl) fun K hK => ?_; simp only [go_sem, Nat.reduceEqDiff, Nat.reduceLT, Nat.reduceAdd, Nat.reduceLeDiff, Nat.reduceMul, Nat.reduceSub, Int.reduceLE, Int.reduceLT, Int.reduceToNat, Int.reducePow, Int.reduceEq, h75, h115])
        refine ACalls.use (unify_some (M.length + 1 + 1 + 1) u3 hc3 k1 k2 ra rc M5 hs5) (by simp only [go_sem, Nat.reduceEqDiff, Nat.reduceLT, Nat.reduceAdd, Nat.reduceLeDiff, Nat.reduceMul, Nat.reduceSub, Int.reduceLE, Int.reduceLT, Int.reduceToNat, Int.reducePow, Int.reduceEq, enc_eq]) ?_
        rintro r' M6 ⟨rfl, es6, s6, r6, rfl, k5, k6⟩
        have hx6 := hx5.set (k := M.length + 1 + 1 + 1) (by omega) (.map es6)
        have h76 : (M5.set (M.length + 1 + 1 + 1) (.map es6))[M.length]? = some (.cells (tcells A.1)) := by rw [List.getElem?_set_ne (by omega)]; exact h75
        have h96 : (M5.set (M.length + 1 + 1 + 1) (.map es6))[M.length + 1]? = some (.cells (tcells B.1)) := by rw [List.getElem?_set_ne (by omega)]; exact h95
        have h116 : (M5.set (M.length + 1 + 1 + 1) (.map es6))[M.length + 1 + 1]? = some (.cells (tcells C.1)) := by rw [List.getElem?_set_ne (by omega)]; exact h115
        have h176 : (M5.set (M.length + 1 + 1 + 1) (.map es6))[M3.length]? = some (.cells (tcells all)) := by
          have := (List.getElem?_eq_some_iff.1 ht3).1
          rw [List.getElem?_set_ne (by omega)]; exact h175
        have hs6 : (M5.set (M.length + 1 + 1 + 1) (.map es6))[M.length + 1 + 1 + 1]? = some (.map es6) := List.getElem?_set_self (List.getElem?_eq_some_iff.1 hs5).1
        generalize M5.set (M.length + 1 + 1 + 1) (.map es6) = M6 at hx6 h76 h96 h116 h176 hs6 ⊢
        simp only [go_sem, Nat.reduceEqDiff, Nat.reduceLT, Nat.reduceAdd, Nat.reduceLeDiff, Nat.reduceMul, Nat.reduceSub, Int.reduceLE, Int.reduceLT, Int.reduceToNat, Int.reducePow, Int.reduceEq]
        (refine WRun.done _ _ (hK _ _ ?_); clear hK)
        refine W_cond_false (by simp only [go_sem, Nat.reduceEqDiff, Nat.reduceLT, Nat.reduceAdd, Nat.reduceLeDiff, Nat.reduceMul, Nat.reduceSub, Int.reduceLE, Int.reduceLT, Int.reduceToNat, Int.reducePow, Int.reduceEq]) ?_
        have FX := fin6 hU3 k5 k6 ra Ta.sn (by omega) Ta.lt
        have FA := fin6 hU3 k5 k6 aA aS (by omega) aL
        have hA2 : (all.sub m3).sub m3 = all.sub m3 := idm3.sub all
        (repeat (first | refine W_seq ?_ | refine W_block ?_ | refine W_blk ?_ | refine W_skip ?_ | (refine W_region [] (by rfl) fun K hK => ?_; simp only [go_sem, Nat.reduceEqDiff, Nat.reduceLT, Nat.reduceAdd, Nat.reduceLeDiff, Nat.reduceMul, Nat.reduceSub, Int.reduceLE, Int.reduceLT, Int.reduceToNat, Int.reducePow, Int.reduceEq]; refine WRun.done _ _ (hK _ _ ?_); clear hK)))
        (refine W_draw [] (fun X => X = M6) mixed_ (by rfl) ?_ fun K hK => ?_)
        · rfl
        (refine DR_quiet [0, 1, 3, 4] (by decide +kernel) (fun M_ hS_ => ?_) (fun K2 hK2 => ?_); (focus (simp only [go_sem, Nat.reduceEqDiff, Nat.reduceLT, Nat.reduceAdd, Nat.reduceLeDiff, Nat.reduceMul, Nat.reduceSub, Int.reduceLE, Int.reduceLT, Int.reduceToNat, Int.reducePow, Int.reduceEq, hS_, h76, h96])); simp only [go_sem, Nat.reduceEqDiff, Nat.reduceLT, Nat.reduceAdd, Nat.reduceLeDiff, Nat.reduceMul, Nat.reduceSub, Int.reduceLE, Int.reduceLT, Int.reduceToNat, Int.reducePow, Int.reduceEq, h76, h96]; refine hK2 _ ?_; clear hK2)
        (refine DR_sole' 2 (by decide +kernel) (by simp only [go_sem, Nat.reduceEqDiff, Nat.reduceLT, Nat.reduceAdd, Nat.reduceLeDiff, Nat.reduceMul, Nat.reduceSub, Int.reduceLE, Int.reduceLT, Int.reduceToNat, Int.reducePow, Int.reduceEq]) ?_; simp only [go_sem, Nat.reduceEqDiff, Nat.reduceLT, Nat.reduceAdd, Nat.reduceLeDiff, Nat.reduceMul, Nat.reduceSub, Int.reduceLE, Int.reduceLT, Int.reduceToNat, Int.reducePow, Int.reduceEq])
        refine ACalls.at (apply_ok k5 k6 (M.length + 1 + 1 + 1) _ A.1 (Nat.le_refl _) ra M6 hs6) (by simp only [go_sem, Nat.reduceEqDiff, Nat.reduceLT, Nat.reduceAdd, Nat.reduceLeDiff, Nat.reduceMul, Nat.reduceSub, Int.reduceLE, Int.reduceLT, Int.reduceToNat, Int.reducePow, Int.reduceEq, enc_eq]) ?_
        rintro v Mv ⟨rfl, hMv⟩
        subst Mv
        refine ⟨rfl, ?_⟩
        (refine DR_sole' 5 (by decide +kernel) (by simp only [go_sem, Nat.reduceEqDiff, Nat.reduceLT, Nat.reduceAdd, Nat.reduceLeDiff, Nat.reduceMul, Nat.reduceSub, Int.reduceLE, Int.reduceLT, Int.reduceToNat, Int.reducePow, Int.reduceEq]) ?_; simp only [go_sem, Nat.reduceEqDiff, Nat.reduceLT, Nat.reduceAdd, Nat.reduceLeDiff, Nat.reduceMul, Nat.reduceSub, Int.reduceLE, Int.reduceLT, Int.reduceToNat, Int.reducePow, Int.reduceEq])
        refine ACalls.at (apply_ok k5 k6 (M.length + 1 + 1 + 1) _ B.1 (Nat.le_refl _) rb M6 hs6) (by simp only [go_sem, Nat.reduceEqDiff, Nat.reduceLT, Nat.reduceAdd, Nat.reduceLeDiff, Nat.reduceMul, Nat.reduceSub, Int.reduceLE, Int.reduceLT, Int.reduceToNat, Int.reducePow, Int.reduceEq, enc_eq]) ?_
        rintro v Mv ⟨rfl, hMv⟩
        subst Mv
        refine ⟨rfl, ?_⟩
        rw [← hxy]
        (refine DR_sole' 6 (by decide +kernel) (by simp only [go_sem, Nat.reduceEqDiff, Nat.reduceLT, Nat.reduceAdd, Nat.reduceLeDiff, Nat.reduceMul, Nat.reduceSub, Int.reduceLE, Int.reduceLT, Int.reduceToNat, Int.reducePow, Int.reduceEq]) ?_; simp only [go_sem, Nat.reduceEqDiff, Nat.reduceLT, Nat.reduceAdd, Nat.reduceLeDiff, Nat.reduceMul, Nat.reduceSub, Int.reduceLE, Int.reduceLT, Int.reduceToNat, Int.reducePow, Int.reduceEq])
        refine ACalls.at (like_self FX M6) (by simp only [go_sem, Nat.reduceEqDiff, Nat.reduceLT, Nat.reduceAdd, Nat.reduceLeDiff, Nat.reduceMul, Nat.reduceSub, Int.reduceLE, Int.reduceLT, Int.reduceToNat, Int.reducePow, Int.reduceEq]) ?_
        rintro v Mv ⟨rfl, hMv⟩
        subst Mv
        refine ⟨rfl, ?_⟩
        (refine DR_quiet [7, 8, 9, 11, 12] (by decide +kernel) (fun M_ hS_ => ?_) (fun K2 hK2 => ?_); (focus (simp only [go_sem, Nat.reduceEqDiff, Nat.reduceLT, Nat.reduceAdd, Nat.reduceLeDiff, Nat.reduceMul, Nat.reduceSub, Int.reduceLE, Int.reduceLT, Int.reduceToNat, Int.reducePow, Int.reduceEq, hS_, h76, h116])); simp only [go_sem, Nat.reduceEqDiff, Nat.reduceLT, Nat.reduceAdd, Nat.reduceLeDiff, Nat.reduceMul, Nat.reduceSub, Int.reduceLE, Int.reduceLT, Int.reduceToNat, Int.reducePow, Int.reduceEq, h76, h116]; refine hK2 _ ?_; clear hK2)
        (refine DR_sole' 10 (by decide +kernel) (by simp only [go_sem, Nat.reduceEqDiff, Nat.reduceLT, Nat.reduceAdd, Nat.reduceLeDiff, Nat.reduceMul, Nat.reduceSub, Int.reduceLE, Int.reduceLT, Int.reduceToNat, Int.reducePow, Int.reduceEq]) ?_; simp only [go_sem, Nat.reduceEqDiff, Nat.reduceLT, Nat.reduceAdd, Nat.reduceLeDiff, Nat.reduceMul, Nat.reduceSub, Int.reduceLE, Int.reduceLT, Int.reduceToNat, Int.reducePow, Int.reduceEq])
        refine ACalls.at (apply_ok k5 k6 (M.length + 1 + 1 + 1) _ A.1 (Nat.le_refl _) ra M6 hs6) (by simp only [go_sem, Nat.reduceEqDiff, Nat.reduceLT, Nat.reduceAdd, Nat.reduceLeDiff, Nat.reduceMul, Nat.reduceSub, Int.reduceLE, Int.reduceLT, Int.reduceToNat, Int.reducePow, Int.reduceEq, enc_eq]) ?_
        rintro v Mv ⟨rfl, hMv⟩
        subst Mv
        refine ⟨rfl, ?_⟩
        (refine DR_sole' 13 (by decide +kernel) (by simp only [go_sem, Nat.reduceEqDiff, Nat.reduceLT, Nat.reduceAdd, Nat.reduceLeDiff, Nat.reduceMul, Nat.reduceSub, Int.reduceLE, Int.reduceLT, Int.reduceToNat, Int.reducePow, Int.reduceEq]) ?_; simp only [go_sem, Nat.reduceEqDiff, Nat.reduceLT, Nat.reduceAdd, Nat.reduceLeDiff, Nat.reduceMul, Nat.reduceSub, Int.reduceLE, Int.reduceLT, Int.reduceToNat, Int.reducePow, Int.reduceEq])
        refine ACalls.at (apply_ok k5 k6 (M.length + 1 + 1 + 1) _ C.1 (Nat.le_refl _) rc M6 hs6) (by simp only [go_sem, Nat.reduceEqDiff, Nat.reduceLT, Nat.reduceAdd, Nat.reduceLeDiff, Nat.reduceMul, Nat.reduceSub, Int.reduceLE, Int.reduceLT, Int.reduceToNat, Int.reducePow, Int.reduceEq, enc_eq]) ?_
        rintro v Mv ⟨rfl, hMv⟩
        subst Mv
        refine ⟨rfl, ?_⟩
        rw [← heq3]
        (refine DR_sole' 14 (by decide +kernel) (by simp only [go_sem, Nat.reduceEqDiff, Nat.reduceLT, Nat.reduceAdd, Nat.reduceLeDiff, Nat.reduceMul, Nat.reduceSub, Int.reduceLE, Int.reduceLT, Int.reduceToNat, Int.reducePow, Int.reduceEq]) ?_; simp only [go_sem, Nat.reduceEqDiff, Nat.reduceLT, Nat.reduceAdd, Nat.reduceLeDiff, Nat.reduceMul, Nat.reduceSub, Int.reduceLE, Int.reduceLT, Int.reduceToNat, Int.reducePow, Int.reduceEq])
        refine ACalls.at (like_self FX M6) (by simp only [go_sem, Nat.reduceEqDiff, Nat.reduceLT, Nat.reduceAdd, Nat.reduceLeDiff, Nat.reduceMul, Nat.reduceSub, Int.reduceLE, Int.reduceLT, Int.reduceToNat, Int.reducePow, Int.reduceEq]) ?_
        rintro v Mv ⟨rfl, hMv⟩
        subst Mv
        refine ⟨rfl, ?_⟩
        (refine DR_quiet [15, 16, 17, 18, 19, 23, 24] (by decide +kernel) (fun M_ hS_ => ?_) (fun K2 hK2 => ?_); (focus (simp only [go_sem, Nat.reduceEqDiff, Nat.reduceLT, Nat.reduceAdd, Nat.reduceLeDiff, Nat.reduceMul, Nat.reduceSub, Int.reduceLE, Int.reduceLT, Int.reduceToNat, Int.reducePow, Int.reduceEq, hS_, h176])); simp only [go_sem, Nat.reduceEqDiff, Nat.reduceLT, Nat.reduceAdd, Nat.reduceLeDiff, Nat.reduceMul, Nat.reduceSub, Int.reduceLE, Int.reduceLT, Int.reduceToNat, Int.reducePow, Int.reduceEq, h176]; refine hK2 _ ?_; clear hK2)
        (refine DR_sole' 20 (by decide +kernel) (by simp only [go_sem, Nat.reduceEqDiff, Nat.reduceLT, Nat.reduceAdd, Nat.reduceLeDiff, Nat.reduceMul, Nat.reduceSub, Int.reduceLE, Int.reduceLT, Int.reduceToNat, Int.reducePow, Int.reduceEq]) ?_; simp only [go_sem, Nat.reduceEqDiff, Nat.reduceLT, Nat.reduceAdd, Nat.reduceLeDiff, Nat.reduceMul, Nat.reduceSub, Int.reduceLE, Int.reduceLT, Int.reduceToNat, Int.reducePow, Int.reduceEq])
        refine ACalls.at (apply_ok k5 k6 (M.length + 1 + 1 + 1) _ all (Nat.le_refl _) aA M6 hs6) (by simp only [go_sem, Nat.reduceEqDiff, Nat.reduceLT, Nat.reduceAdd, Nat.reduceLeDiff, Nat.reduceMul, Nat.reduceSub, Int.reduceLE, Int.reduceLT, Int.reduceToNat, Int.reducePow, Int.reduceEq, enc_eq]) ?_
        rintro v Mv ⟨rfl, hMv⟩
        subst Mv
        refine ⟨rfl, ?_⟩
        (refine DR_sole' 21 (by decide +kernel) (by simp only [go_sem, Nat.reduceEqDiff, Nat.reduceLT, Nat.reduceAdd, Nat.reduceLeDiff, Nat.reduceMul, Nat.reduceSub, Int.reduceLE, Int.reduceLT, Int.reduceToNat, Int.reducePow, Int.reduceEq]) ?_; simp only [go_sem, Nat.reduceEqDiff, Nat.reduceLT, Nat.reduceAdd, Nat.reduceLeDiff, Nat.reduceMul, Nat.reduceSub, Int.reduceLE, Int.reduceLT, Int.reduceToNat, Int.reducePow, Int.reduceEq])
        refine ACalls.at (apply_ok k5 k6 (M.length + 1 + 1 + 1) _ (all.sub m3) (Nat.le_refl _) FA.ar M6 hs6) (by simp only [go_sem, Nat.reduceEqDiff, Nat.reduceLT, Nat.reduceAdd, Nat.reduceLeDiff, Nat.reduceMul, Nat.reduceSub, Int.reduceLE, Int.reduceLT, Int.reduceToNat, Int.reducePow, Int.reduceEq]) ?_
        rintro v Mv ⟨rfl, hMv⟩
        subst Mv
        refine ⟨rfl, ?_⟩
        rw [hA2]
        (refine DR_sole' 22 (by decide +kernel) (by simp only [go_sem, Nat.reduceEqDiff, Nat.reduceLT, Nat.reduceAdd, Nat.reduceLeDiff, Nat.reduceMul, Nat.reduceSub, Int.reduceLE, Int.reduceLT, Int.reduceToNat, Int.reducePow, Int.reduceEq]) ?_; simp only [go_sem, Nat.reduceEqDiff, Nat.reduceLT, Nat.reduceAdd, Nat.reduceLeDiff, Nat.reduceMul, Nat.reduceSub, Int.reduceLE, Int.reduceLT, Int.reduceToNat, Int.reducePow, Int.reduceEq])
        refine ACalls.at (text_ok _ (all.sub m3) (Nat.le_refl _) FA.ar FA.sm (by have := FA.size; omega) M6 (.inl FA.l100)) (by simp only [go_sem, Nat.reduceEqDiff, Nat.reduceLT, Nat.reduceAdd, Nat.reduceLeDiff, Nat.reduceMul, Nat.reduceSub, Int.reduceLE, Int.reduceLT, Int.reduceToNat, Int.reducePow, Int.reduceEq]) ?_
        rintro v Mv ⟨rfl, hMv⟩
        subst Mv
        refine ⟨rfl, ?_⟩
        (refine DR_sole' 25 (by decide +kernel) (by simp only [go_sem, Nat.reduceEqDiff, Nat.reduceLT, Nat.reduceAdd, Nat.reduceLeDiff, Nat.reduceMul, Nat.reduceSub, Int.reduceLE, Int.reduceLT, Int.reduceToNat, Int.reducePow, Int.reduceEq]) ?_; simp only [go_sem, Nat.reduceEqDiff, Nat.reduceLT, Nat.reduceAdd, Nat.reduceLeDiff, Nat.reduceMul, Nat.reduceSub, Int.reduceLE, Int.reduceLT, Int.reduceToNat, Int.reducePow, Int.reduceEq])
        refine ACalls.at (apply_ok k5 k6 (M.length + 1 + 1 + 1) _ all (Nat.le_refl _) aA M6 hs6) (by simp only [go_sem, Nat.reduceEqDiff, Nat.reduceLT, Nat.reduceAdd, Nat.reduceLeDiff, Nat.reduceMul, Nat.reduceSub, Int.reduceLE, Int.reduceLT, Int.reduceToNat, Int.reducePow, Int.reduceEq, enc_eq]) ?_
        rintro v Mv ⟨rfl, hMv⟩
        subst Mv
        refine ⟨rfl, ?_⟩
        (refine DR_sole' 26 (by decide +kernel) (by simp only [go_sem, Nat.reduceEqDiff, Nat.reduceLT, Nat.reduceAdd, Nat.reduceLeDiff, Nat.reduceMul, Nat.reduceSub, Int.reduceLE, Int.reduceLT, Int.reduceToNat, Int.reducePow, Int.reduceEq]) ?_; simp only [go_sem, Nat.reduceEqDiff, Nat.reduceLT, Nat.reduceAdd, Nat.reduceLeDiff, Nat.reduceMul, Nat.reduceSub, Int.reduceLE, Int.reduceLT, Int.reduceToNat, Int.reducePow, Int.reduceEq])
        refine ACalls.at (text_ok _ (all.sub m3) (Nat.le_refl _) FA.ar FA.sm (by have := FA.size; omega) M6 (.inl FA.l100)) (by simp only [go_sem, Nat.reduceEqDiff, Nat.reduceLT, Nat.reduceAdd, Nat.reduceLeDiff, Nat.reduceMul, Nat.reduceSub, Int.reduceLE, Int.reduceLT, Int.reduceToNat, Int.reducePow, Int.reduceEq]) ?_
        rintro v Mv ⟨rfl, hMv⟩
        subst Mv
        refine ⟨rfl, ?_⟩
        (refine DR_quiet [27, 28, 29] (by decide +kernel) (fun M_ hS_ => ?_) (fun K2 hK2 => ?_); (focus (simp only [go_sem, Nat.reduceEqDiff, Nat.reduceLT, Nat.reduceAdd, Nat.reduceLeDiff, Nat.reduceMul, Nat.reduceSub, Int.reduceLE, Int.reduceLT, Int.reduceToNat, Int.reducePow, Int.reduceEq, hS_, strEq_self])); simp only [go_sem, Nat.reduceEqDiff, Nat.reduceLT, Nat.reduceAdd, Nat.reduceLeDiff, Nat.reduceMul, Nat.reduceSub, Int.reduceLE, Int.reduceLT, Int.reduceToNat, Int.reducePow, Int.reduceEq, strEq_self]; refine hK2 _ ?_; clear hK2)
        (refine DR_end (by decide +kernel) (hK _ _ ?_); clear hK)
        refine W_ret ?_
        simp only [go_sem, Nat.reduceEqDiff, Nat.reduceLT, Nat.reduceAdd, Nat.reduceLeDiff, Nat.reduceMul, Nat.reduceSub, Int.reduceLE, Int.reduceLT, Int.reduceToNat, Int.reducePow, Int.reduceEq, strEq_self]
        exact hx6.out
  · have h93 : 9 < la.length ∨ (la.length ≤ 9 ∧ 9 < lb.length) ∨ (la.length ≤ 9 ∧ lb.length ≤ 9 ∧ 9 < lc.length) := by omega
    rcases h93 with h | ⟨h1, h⟩ | ⟨h1, h2, h⟩
    · have n1 : (9 : Int) < (la.length : Int) := by omega
      simp only [go_sem, Nat.reduceEqDiff, Nat.reduceLT, Nat.reduceAdd, Nat.reduceLeDiff, Nat.reduceMul, Nat.reduceSub, Int.reduceLE, Int.reduceLT, Int.reduceToNat, Int.reducePow, Int.reduceEq, n1]
      (refine WRun.done _ _ (hK _ _ ?_); clear hK)
      refine W_cond_true (by simp only [go_sem, Nat.reduceEqDiff, Nat.reduceLT, Nat.reduceAdd, Nat.reduceLeDiff, Nat.reduceMul, Nat.reduceSub, Int.reduceLE, Int.reduceLT, Int.reduceToNat, Int.reducePow, Int.reduceEq]) ?_
      (repeat (first | refine W_seq ?_ | refine W_block ?_ | refine W_blk ?_ | refine W_skip ?_))
      (refine W_region [] (by rfl) fun K hK => ?_; simp only [go_sem, Nat.reduceEqDiff, Nat.reduceLT, Nat.reduceAdd, Nat.reduceLeDiff, Nat.reduceMul, Nat.reduceSub, Int.reduceLE, Int.reduceLT, Int.reduceToNat, Int.reducePow, Int.reduceEq])
      refine PCalls.use lives_ok (by simp only [go_sem, Nat.reduceEqDiff, Nat.reduceLT, Nat.reduceAdd, Nat.reduceLeDiff, Nat.reduceMul, Nat.reduceSub, Int.reduceLE, Int.reduceLT, Int.reduceToNat, Int.reducePow, Int.reduceEq]) ?_
      simp only [go_sem, Nat.reduceEqDiff, Nat.reduceLT, Nat.reduceAdd, Nat.reduceLeDiff, Nat.reduceMul, Nat.reduceSub, Int.reduceLE, Int.reduceLT, Int.reduceToNat, Int.reducePow, Int.reduceEq]
      (refine WRun.done _ _ (hK _ _ ?_); clear hK)
      refine W_ret ?_
      simp only [go_sem, Nat.reduceEqDiff, Nat.reduceLT, Nat.reduceAdd, Nat.reduceLeDiff, Nat.reduceMul, Nat.reduceSub, Int.reduceLE, Int.reduceLT, Int.reduceToNat, Int.reducePow, Int.reduceEq]
      exact ⟨[], by simp⟩
    · have n1 : ¬ (9 : Int) < (la.length : Int) := by omega
      have n2 : (9 : Int) < (lb.length : Int) := by omega
      simp only [go_sem, Nat.reduceEqDiff, Nat.reduceLT, Nat.reduceAdd, Nat.reduceLeDiff, Nat.reduceMul, Nat.reduceSub, Int.reduceLE, Int.reduceLT, Int.reduceToNat, Int.reducePow, Int.reduceEq, n1, n2]
      (refine WRun.done _ _ (hK _ _ ?_); clear hK)
      refine W_cond_true (by simp only [go_sem, Nat.reduceEqDiff, Nat.reduceLT, Nat.reduceAdd, Nat.reduceLeDiff, Nat.reduceMul, Nat.reduceSub, Int.reduceLE, Int.reduceLT, Int.reduceToNat, Int.reducePow, Int.reduceEq]) ?_
      (repeat (first | refine W_seq ?_ | refine W_block ?_ | refine W_blk ?_ | refine W_skip ?_))
      (refine W_region [] (by rfl) fun K hK => ?_; simp only [go_sem, Nat.reduceEqDiff, Nat.reduceLT, Nat.reduceAdd, Nat.reduceLeDiff, Nat.reduceMul, Nat.reduceSub, Int.reduceLE, Int.reduceLT, Int.reduceToNat, Int.reducePow, Int.reduceEq])
      refine PCalls.use lives_ok (by simp only [go_sem, Nat.reduceEqDiff, Nat.reduceLT, Nat.reduceAdd, Nat.reduceLeDiff, Nat.reduceMul, Nat.reduceSub, Int.reduceLE, Int.reduceLT, Int.reduceToNat, Int.reducePow, Int.reduceEq]) ?_
      simp only [go_sem, Nat.reduceEqDiff, Nat.reduceLT, Nat.reduceAdd, Nat.reduceLeDiff, Nat.reduceMul, Nat.reduceSub, Int.reduceLE, Int.reduceLT, Int.reduceToNat, Int.reducePow, Int.reduceEq]
      (refine WRun.done _ _ (hK _ _ ?_); clear hK)
      refine W_ret ?_
      simp only [go_sem, Nat.reduceEqDiff, Nat.reduceLT, Nat.reduceAdd, Nat.reduceLeDiff, Nat.reduceMul, Nat.reduceSub, Int.reduceLE, Int.reduceLT, Int.reduceToNat, Int.reducePow, Int.reduceEq]
      exact ⟨[], by simp⟩
    · have n1 : ¬ (9 : Int) < (la.length : Int) := by omega
      have n2 : ¬ (9 : Int) < (lb.length : Int) := by omega
      have n3 : (9 : Int) < (lc.length : Int) := by omega
      simp only [go_sem, Nat.reduceEqDiff, Nat.reduceLT, Nat.reduceAdd, Nat.reduceLeDiff, Nat.reduceMul, Nat.reduceSub, Int.reduceLE, Int.reduceLT, Int.reduceToNat, Int.reducePow, Int.reduceEq, n1, n2, n3]
      (refine WRun.done _ _ (hK _ _ ?_); clear hK)
      refine W_cond_true (by simp only [go_sem, Nat.reduceEqDiff, Nat.reduceLT, Nat.reduceAdd, Nat.reduceLeDiff, Nat.reduceMul, Nat.reduceSub, Int.reduceLE, Int.reduceLT, Int.reduceToNat, Int.reducePow, Int.reduceEq, n3]) ?_
      (repeat (first | refine W_seq ?_ | refine W_block ?_ | refine W_blk ?_ | refine W_skip ?_))
      (refine W_region [] (by rfl) fun K hK => ?_; simp only [go_sem, Nat.reduceEqDiff, Nat.reduceLT, Nat.reduceAdd, Nat.reduceLeDiff, Nat.reduceMul, Nat.reduceSub, Int.reduceLE, Int.reduceLT, Int.reduceToNat, Int.reducePow, Int.reduceEq])
      refine PCalls.use lives_ok (by simp only [go_sem, Nat.reduceEqDiff, Nat.reduceLT, Nat.reduceAdd, Nat.reduceLeDiff, Nat.reduceMul, Nat.reduceSub, Int.reduceLE, Int.reduceLT, Int.reduceToNat, Int.reducePow, Int.reduceEq]) ?_
      simp only [go_sem, Nat.reduceEqDiff, Nat.reduceLT, Nat.reduceAdd, Nat.reduceLeDiff, Nat.reduceMul, Nat.reduceSub, Int.reduceLE, Int.reduceLT, Int.reduceToNat, Int.reducePow, Int.reduceEq]
      (refine WRun.done _ _ (hK _ _ ?_); clear hK)
      refine W_ret ?_
      simp only [go_sem, Nat.reduceEqDiff, Nat.reduceLT, Nat.reduceAdd, Nat.reduceLeDiff, Nat.reduceMul, Nat.reduceSub, Int.reduceLE, Int.reduceLT, Int.reduceToNat, Int.reducePow, Int.reduceEq]
      exact ⟨[], by simp⟩
end Go.Ax

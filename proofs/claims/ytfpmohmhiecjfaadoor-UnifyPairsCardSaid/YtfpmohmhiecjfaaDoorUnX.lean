/- UnifyPairs: the law. Conditions: none. -/
import Derived.Test.YtfpmohmhiecjfaaDoorUnXp
import Derived.Test.YtfpmohmhiecjfaaDoorUnW
set_option linter.unusedSimpArgs false
set_option linter.unusedVariables false
namespace Go.Ax
open Go.Proofs Go.Uni

noncomputable def body3 : Code := Tryd.f3.body.getD .skip
theorem TgIn.upd {n : Nat} {tg : Tag} {M : AMem} (h : TgIn n tg M) {o : Nat} {x y : AObj} (ho : M[o]? = some x) (hx : x ≠ .tail) : TgIn n tg (M.set o y) := by
  refine ⟨?_, h.2⟩
  have h1 := h.1
  cases tg with
  | own k =>
    simp only [tagOk] at h1 ⊢
    have : o ≠ k := fun e => by
      subst e; rw [ho] at h1
      cases x <;> simp at h1 hx
    rw [List.getElem?_set_ne this]; exact h1
  | _ => exact h1

set_option maxHeartbeats 16000000 in
theorem pairs_iter (ls : List (List Nd)) (hok : ∀ l ∈ ls, ∀ x ∈ l, x.ok) (h12 : ls.length ≤ 12) (h9 : ∀ l ∈ ls, l.length ≤ 9) (M M' : AMem) (F' : Fr) (i : Nat) (hi : i + 1 < ls.length) (hx : Ext M M') (f0 : look F' 0 = .list .dull (ls.map encNL)) (f3 : look F' 3 = .map M.length) (f5 : look F' 5 = .ptr (M.length + 1) 0) (f7 : look F' 7 = V.int i)
    (tga : Tag) (av : List V) (hav : V.unL av = encL [.var 0, .var 1, .var 2, .var 3, .var 4, .var 5]) (h5 : M'[M.length + 1]? = some (.cells [V.int (-1), V.str ⟨#[97, 108, 108]⟩, .list tga av]))
    (m : Nat → Ty) (hU : UOk m) (es : List (Value × V)) (s : Nat → Option Ty) (r : Nat → Nat) (hs : SMap es s) (hm : Sbs s m r) (h3 : M'[M.length]? = some (.map es)) (l : PL) (tgl : Tag) (f4 : look F' 4 = .list tgl (l.map encP)) (hR : Rep l m) (hl : ArP l) (k : List It)
    (hk : ∀ F'' M'', Ext M M'' → look F'' 0 = .list .dull (ls.map encNL) → look F'' 3 = .map M.length → look F'' 5 = .ptr (M.length + 1) 0 → look F'' 7 = V.int i → M''[M.length + 1]? = some (.cells [V.int (-1), V.str ⟨#[97, 108, 108]⟩, .list tga av]) →
      ∀ m' es' s' r' l' tgl', UOk m' → SMap es' s' → Sbs s' m' r' → M''[M.length]? = some (.map es') → look F'' 4 = .list tgl' (l'.map encP) → Rep l' m' → ArP l' → W Tryd.prog 122 (RetA Tryd.prog [.tmp 2] fun v M' => v.un = V.bool true ∧ ∃ L, M' = M ++ L) k F'' M'') :
    W Tryd.prog 122 (RetA Tryd.prog [.tmp 2] fun v M' => v.un = V.bool true ∧ ∃ L, M' = M ++ L) (.code (part [1,1,1,1,1,1,1,0,1,1,1,1,0,1] body3) :: k) F' M' := by
  obtain ⟨la, hla⟩ : ∃ x, ls[i]? = some x := ⟨ls[i], by simp⟩
  obtain ⟨lb, hlb⟩ : ∃ x, ls[i + 1]? = some x := ⟨ls[i + 1], by simp⟩
  have hma := List.mem_of_getElem? hla
  have hmb := List.mem_of_getElem? hlb
  have Ta := typF_T6 (h9 la hma)
  have Tb := typF_T6 (h9 lb hmb)
  have hta := typ_ok 13 (Nat.le_refl _) la (hok la hma) (by have := h9 la hma; omega)
  have htb := typ_ok 13 (Nat.le_refl _) lb (hok lb hmb) (by have := h9 lb hmb; omega)
  have hata := encNL_at hla
  have hatb := encNL_at hlb
  have hw : IntKind.i64.wrap ((i : Int) + 1) = ((i + 1 : Nat) : Int) := by rw [wrapI _ (by omega) (by omega)]; omega
  have hl3 := (List.getElem?_eq_some_iff.1 h3).1
  generalize typF 13 la = A at Ta hta
  generalize typF 13 lb = B at Tb htb
  (repeat (first | refine W_seq ?_ | refine W_block ?_ | refine W_blk ?_ | refine W_skip ?_))
  (refine W_region [] (by rfl) fun K hK => ?_; simp only [go_sem, Nat.reduceEqDiff, Nat.reduceLT, Nat.reduceAdd, Nat.reduceLeDiff, Nat.reduceMul, Nat.reduceSub, Int.reduceLE, Int.reduceLT, Int.reduceToNat, Int.reducePow, Int.reduceEq, f0, f7, hata, Int.natCast_nonneg, Int.toNat_natCast])
  refine PCalls.use hta (by simp only [go_sem, Nat.reduceEqDiff, Nat.reduceLT, Nat.reduceAdd, Nat.reduceLeDiff, Nat.reduceMul, Nat.reduceSub, Int.reduceLE, Int.reduceLT, Int.reduceToNat, Int.reducePow, Int.reduceEq]) ?_
  simp only [go_sem, Nat.reduceEqDiff, Nat.reduceLT, Nat.reduceAdd, Nat.reduceLeDiff, Nat.reduceMul, Nat.reduceSub, Int.reduceLE, Int.reduceLT, Int.reduceToNat, Int.reducePow, Int.reduceEq]
  (refine WRun.done _ _ (hK _ _ ?_); clear hK)
  (repeat (first | refine W_seq ?_ | refine W_block ?_ | refine W_blk ?_ | refine W_skip ?_))
  (refine W_region [] (by rfl) fun K hK => ?_; simp only [go_sem, Nat.reduceEqDiff, Nat.reduceLT, Nat.reduceAdd, Nat.reduceLeDiff, Nat.reduceMul, Nat.reduceSub, Int.reduceLE, Int.reduceLT, Int.reduceToNat, Int.reducePow, Int.reduceEq, f0, f7, hw, hatb, Int.natCast_nonneg, Int.toNat_natCast])
  refine PCalls.use htb (by simp only [go_sem, Nat.reduceEqDiff, Nat.reduceLT, Nat.reduceAdd, Nat.reduceLeDiff, Nat.reduceMul, Nat.reduceSub, Int.reduceLE, Int.reduceLT, Int.reduceToNat, Int.reducePow, Int.reduceEq]) ?_
  simp only [go_sem, Nat.reduceEqDiff, Nat.reduceLT, Nat.reduceAdd, Nat.reduceLeDiff, Nat.reduceMul, Nat.reduceSub, Int.reduceLE, Int.reduceLT, Int.reduceToNat, Int.reducePow, Int.reduceEq]
  (refine WRun.done _ _ (hK _ _ ?_); clear hK)
  have hSa := Sm_of Ta.sn (fun v hv => by have := Ta.lt v hv; omega)
  have hSb := Sm_of Tb.sn (fun v hv => by have := Tb.lt v hv; omega)
  have ra := Ta.ar
  have rb := Tb.ar
  have za := Ta.size
  have zb := Tb.size
  have hva : ∀ n ∈ A.1.vars, n < 100 := fun v hv => by have := Ta.lt v hv; omega
  have hvb : ∀ n ∈ B.1.vars, n < 100 := fun v hv => by have := Tb.lt v hv; omega
  have hta2 := txt_size hSa
  have htb2 := txt_size hSb
  have hadd : (txt A.1).size + (txt B.1).size ≤ 9223372036854775807 := by omega
  have hx2 : Ext M (M' ++ [AObj.cells (tcells A.1)] ++ [AObj.cells (tcells B.1)]) := (hx.app _).app _
  have h8 : (M' ++ [AObj.cells (tcells A.1)] ++ [AObj.cells (tcells B.1)])[M'.length]? = some (.cells (tcells A.1)) := at_app (at_snoc rfl)
  have h10 : (M' ++ [AObj.cells (tcells A.1)] ++ [AObj.cells (tcells B.1)])[M'.length + 1]? = some (.cells (tcells B.1)) := at_snoc (by simp)
  have h52 : (M' ++ [AObj.cells (tcells A.1)] ++ [AObj.cells (tcells B.1)])[M.length + 1]? = some (.cells [V.int (-1), V.str ⟨#[97, 108, 108]⟩, .list tga av]) := at_app (at_app h5)
  have h32 : (M' ++ [AObj.cells (tcells A.1)] ++ [AObj.cells (tcells B.1)])[M.length]? = some (.map es) := at_app (at_app h3)
  generalize M' ++ [AObj.cells (tcells A.1)] ++ [AObj.cells (tcells B.1)] = M2 at hx2 h8 h10 h52 h32 ⊢
  (repeat (first | refine W_seq ?_ | refine W_block ?_ | refine W_blk ?_ | refine W_skip ?_))
  (refine W_draw [] (fun X => X = M2) mixed_ (by rfl) ?_ fun K hK => ?_)
  · rfl
  (refine DR_quiet [0, 2] (by decide +kernel) (fun M_ hS_ => ?_) (fun K2 hK2 => ?_); (focus (simp only [go_sem, Nat.reduceEqDiff, Nat.reduceLT, Nat.reduceAdd, Nat.reduceLeDiff, Nat.reduceMul, Nat.reduceSub, Int.reduceLE, Int.reduceLT, Int.reduceToNat, Int.reducePow, Int.reduceEq, hS_, h8, h10])); simp only [go_sem, Nat.reduceEqDiff, Nat.reduceLT, Nat.reduceAdd, Nat.reduceLeDiff, Nat.reduceMul, Nat.reduceSub, Int.reduceLE, Int.reduceLT, Int.reduceToNat, Int.reducePow, Int.reduceEq, h8, h10]; refine hK2 _ ?_; clear hK2)
  (refine DR_sole' 1 (by decide +kernel) (by simp only [go_sem, Nat.reduceEqDiff, Nat.reduceLT, Nat.reduceAdd, Nat.reduceLeDiff, Nat.reduceMul, Nat.reduceSub, Int.reduceLE, Int.reduceLT, Int.reduceToNat, Int.reducePow, Int.reduceEq]) ?_; simp only [go_sem, Nat.reduceEqDiff, Nat.reduceLT, Nat.reduceAdd, Nat.reduceLeDiff, Nat.reduceMul, Nat.reduceSub, Int.reduceLE, Int.reduceLT, Int.reduceToNat, Int.reducePow, Int.reduceEq])
  refine ACalls.at (text_ok _ A.1 (Nat.le_refl _) ra hSa (by omega) M2 (.inl hva)) (by simp only [go_sem, Nat.reduceEqDiff, Nat.reduceLT, Nat.reduceAdd, Nat.reduceLeDiff, Nat.reduceMul, Nat.reduceSub, Int.reduceLE, Int.reduceLT, Int.reduceToNat, Int.reducePow, Int.reduceEq, enc_eq]) ?_
  rintro v Mv ⟨rfl, hMv⟩
  subst Mv
  refine ⟨rfl, ?_⟩
  (refine DR_sole' 3 (by decide +kernel) (by simp only [go_sem, Nat.reduceEqDiff, Nat.reduceLT, Nat.reduceAdd, Nat.reduceLeDiff, Nat.reduceMul, Nat.reduceSub, Int.reduceLE, Int.reduceLT, Int.reduceToNat, Int.reducePow, Int.reduceEq]) ?_; simp only [go_sem, Nat.reduceEqDiff, Nat.reduceLT, Nat.reduceAdd, Nat.reduceLeDiff, Nat.reduceMul, Nat.reduceSub, Int.reduceLE, Int.reduceLT, Int.reduceToNat, Int.reducePow, Int.reduceEq])
  refine ACalls.at (text_ok _ B.1 (Nat.le_refl _) rb hSb (by omega) M2 (.inl hvb)) (by simp only [go_sem, Nat.reduceEqDiff, Nat.reduceLT, Nat.reduceAdd, Nat.reduceLeDiff, Nat.reduceMul, Nat.reduceSub, Int.reduceLE, Int.reduceLT, Int.reduceToNat, Int.reducePow, Int.reduceEq, enc_eq]) ?_
  rintro v Mv ⟨rfl, hMv⟩
  subst Mv
  refine ⟨rfl, ?_⟩
  (refine DR_quiet [4, 5] (by decide +kernel) (fun M_ hS_ => ?_) (fun K2 hK2 => ?_); (focus (simp only [go_sem, Nat.reduceEqDiff, Nat.reduceLT, Nat.reduceAdd, Nat.reduceLeDiff, Nat.reduceMul, Nat.reduceSub, Int.reduceLE, Int.reduceLT, Int.reduceToNat, Int.reducePow, Int.reduceEq, hS_, hadd])); simp only [go_sem, Nat.reduceEqDiff, Nat.reduceLT, Nat.reduceAdd, Nat.reduceLeDiff, Nat.reduceMul, Nat.reduceSub, Int.reduceLE, Int.reduceLT, Int.reduceToNat, Int.reducePow, Int.reduceEq, hadd]; refine hK2 _ ?_; clear hK2)
  (refine DR_end (by decide +kernel) (hK _ _ ?_); clear hK)
  obtain ⟨res, c, hUn, hres⟩ := hU.step Ta Tb
  (repeat (first | refine W_seq ?_ | refine W_block ?_ | refine W_blk ?_ | refine W_skip ?_))
  (refine W_region [] (by rfl) fun K hK => ?_; simp only [go_sem, Nat.reduceEqDiff, Nat.reduceLT, Nat.reduceAdd, Nat.reduceLeDiff, Nat.reduceMul, Nat.reduceSub, Int.reduceLE, Int.reduceLT, Int.reduceToNat, Int.reducePow, Int.reduceEq, f3, h8, h10])
  refine ACalls.use (unify_ok M.length hUn hs hm ra rb M2 h32) (by simp only [go_sem, Nat.reduceEqDiff, Nat.reduceLT, Nat.reduceAdd, Nat.reduceLeDiff, Nat.reduceMul, Nat.reduceSub, Int.reduceLE, Int.reduceLT, Int.reduceToNat, Int.reducePow, Int.reduceEq, enc_eq]) ?_
  rintro r' M3' ⟨es4, x4, rfl, ho⟩
  simp only [go_sem, Nat.reduceEqDiff, Nat.reduceLT, Nat.reduceAdd, Nat.reduceLeDiff, Nat.reduceMul, Nat.reduceSub, Int.reduceLE, Int.reduceLT, Int.reduceToNat, Int.reducePow, Int.reduceEq]
  (refine WRun.done _ _ (hK _ _ ?_); clear hK)
  have hx4 := hx2.set (Nat.le_refl _) (.map es4)
  have h34 : (M2.set M.length (.map es4))[M.length]? = some (.map es4) := List.getElem?_set_self (List.getElem?_eq_some_iff.1 h32).1
  have h84 : (M2.set M.length (.map es4))[M'.length]? = some (.cells (tcells A.1)) := by rw [List.getElem?_set_ne (by omega)]; exact h8
  have h104 : (M2.set M.length (.map es4))[M'.length + 1]? = some (.cells (tcells B.1)) := by rw [List.getElem?_set_ne (by omega)]; exact h10
  have h54 : (M2.set M.length (.map es4))[M.length + 1]? = some (.cells [V.int (-1), V.str ⟨#[97, 108, 108]⟩, .list tga av]) := by rw [List.getElem?_set_ne (by omega)]; exact h52
  clear h8 h10 h52 h32 hx2
  generalize M2.set M.length (.map es4) = M4 at hx4 h34 h84 h104 h54 ⊢
  (repeat (first | refine W_seq ?_ | refine W_block ?_ | refine W_blk ?_ | refine W_skip ?_))
  (refine W_region [] (by rfl) fun K hK => ?_; simp only [go_sem, Nat.reduceEqDiff, Nat.reduceLT, Nat.reduceAdd, Nat.reduceLeDiff, Nat.reduceMul, Nat.reduceSub, Int.reduceLE, Int.reduceLT, Int.reduceToNat, Int.reducePow, Int.reduceEq, f4, h84, h104])
  refine ACalls.use (runify_ok c c (Nat.le_refl _) m A.1 B.1 res hUn l hm.idm hR hl ra rb (fun v hv => by have := Ta.lt v hv; omega) (fun v hv => by have := Tb.lt v hv; omega) M4) (by simp only [go_sem, Nat.reduceEqDiff, Nat.reduceLT, Nat.reduceAdd, Nat.reduceLeDiff, Nat.reduceMul, Nat.reduceSub, Int.reduceLE, Int.reduceLT, Int.reduceToNat, Int.reducePow, Int.reduceEq, enc_eq]) ?_
  rintro r2 M5 ⟨hM5, hru⟩
  subst M5
  rcases hru with ⟨hn, rfl⟩ | ⟨m', l', hn, rfl, hR', hl'⟩
  · subst hn
    rcases ho with ⟨_, _, _, m', s', r', hm', _⟩ | ⟨rfl, _, s', hs'⟩
    · cases hm'
    simp only [go_sem, Nat.reduceEqDiff, Nat.reduceLT, Nat.reduceAdd, Nat.reduceLeDiff, Nat.reduceMul, Nat.reduceSub, Int.reduceLE, Int.reduceLT, Int.reduceToNat, Int.reducePow, Int.reduceEq]
    (refine WRun.done _ _ (hK _ _ ?_); clear hK)
    (repeat (first | refine W_seq ?_ | refine W_block ?_ | refine W_blk ?_ | refine W_skip ?_))
    (refine W_draw [] (fun X => X = M4) mixed_ (by rfl) ?_ fun K hK => ?_)
    · rfl
    (refine DR_quiet [0, 1, 2, 3, 4, 5, 6, 7, 8, 9, 10, 11, 12, 13, 14, 16] (by decide +kernel) (fun M_ hS_ => ?_) (fun K2 hK2 => ?_); (focus (simp only [go_sem, Nat.reduceEqDiff, Nat.reduceLT, Nat.reduceAdd, Nat.reduceLeDiff, Nat.reduceMul, Nat.reduceSub, Int.reduceLE, Int.reduceLT, Int.reduceToNat, Int.reducePow, Int.reduceEq, hS_, h84, h104])); simp only [go_sem, Nat.reduceEqDiff, Nat.reduceLT, Nat.reduceAdd, Nat.reduceLeDiff, Nat.reduceMul, Nat.reduceSub, Int.reduceLE, Int.reduceLT, Int.reduceToNat, Int.reducePow, Int.reduceEq, h84, h104]; refine hK2 _ ?_; clear hK2)
    (refine DR_sole' 15 (by decide +kernel) (by simp only [go_sem, Nat.reduceEqDiff, Nat.reduceLT, Nat.reduceAdd, Nat.reduceLeDiff, Nat.reduceMul, Nat.reduceSub, Int.reduceLE, Int.reduceLT, Int.reduceToNat, Int.reducePow, Int.reduceEq]) ?_; simp only [go_sem, Nat.reduceEqDiff, Nat.reduceLT, Nat.reduceAdd, Nat.reduceLeDiff, Nat.reduceMul, Nat.reduceSub, Int.reduceLE, Int.reduceLT, Int.reduceToNat, Int.reducePow, Int.reduceEq])
    refine ACalls.at (text_ok _ A.1 (Nat.le_refl _) ra hSa (by omega) M4 (.inl hva)) (by simp only [go_sem, Nat.reduceEqDiff, Nat.reduceLT, Nat.reduceAdd, Nat.reduceLeDiff, Nat.reduceMul, Nat.reduceSub, Int.reduceLE, Int.reduceLT, Int.reduceToNat, Int.reducePow, Int.reduceEq, enc_eq]) ?_
    rintro v Mv ⟨rfl, hMv⟩
    subst Mv
    refine ⟨rfl, ?_⟩
    (refine DR_sole' 17 (by decide +kernel) (by simp only [go_sem, Nat.reduceEqDiff, Nat.reduceLT, Nat.reduceAdd, Nat.reduceLeDiff, Nat.reduceMul, Nat.reduceSub, Int.reduceLE, Int.reduceLT, Int.reduceToNat, Int.reducePow, Int.reduceEq]) ?_; simp only [go_sem, Nat.reduceEqDiff, Nat.reduceLT, Nat.reduceAdd, Nat.reduceLeDiff, Nat.reduceMul, Nat.reduceSub, Int.reduceLE, Int.reduceLT, Int.reduceToNat, Int.reducePow, Int.reduceEq])
    refine ACalls.at (text_ok _ B.1 (Nat.le_refl _) rb hSb (by omega) M4 (.inl hvb)) (by simp only [go_sem, Nat.reduceEqDiff, Nat.reduceLT, Nat.reduceAdd, Nat.reduceLeDiff, Nat.reduceMul, Nat.reduceSub, Int.reduceLE, Int.reduceLT, Int.reduceToNat, Int.reducePow, Int.reduceEq, enc_eq]) ?_
    rintro v Mv ⟨rfl, hMv⟩
    subst Mv
    refine ⟨rfl, ?_⟩
    (refine DR_quiet [18, 19, 20] (by decide +kernel) (fun M_ hS_ => ?_) (fun K2 hK2 => ?_); (focus (simp only [go_sem, Nat.reduceEqDiff, Nat.reduceLT, Nat.reduceAdd, Nat.reduceLeDiff, Nat.reduceMul, Nat.reduceSub, Int.reduceLE, Int.reduceLT, Int.reduceToNat, Int.reducePow, Int.reduceEq, hS_, hadd, strEq_self])); simp only [go_sem, Nat.reduceEqDiff, Nat.reduceLT, Nat.reduceAdd, Nat.reduceLeDiff, Nat.reduceMul, Nat.reduceSub, Int.reduceLE, Int.reduceLT, Int.reduceToNat, Int.reducePow, Int.reduceEq, hadd, strEq_self]; refine hK2 _ ?_; clear hK2)
    (refine DR_end (by decide +kernel) (hK _ _ ?_); clear hK)
    refine W_cond_false (by simp only [go_sem, Nat.reduceEqDiff, Nat.reduceLT, Nat.reduceAdd, Nat.reduceLeDiff, Nat.reduceMul, Nat.reduceSub, Int.reduceLE, Int.reduceLT, Int.reduceToNat, Int.reducePow, Int.reduceEq, strEq_self]) ?_
    (repeat (first | refine W_seq ?_ | refine W_block ?_ | refine W_blk ?_ | refine W_skip ?_ | (refine W_region [] (by rfl) fun K hK => ?_; simp only [go_sem, Nat.reduceEqDiff, Nat.reduceLT, Nat.reduceAdd, Nat.reduceLeDiff, Nat.reduceMul, Nat.reduceSub, Int.reduceLE, Int.reduceLT, Int.reduceToNat, Int.reducePow, Int.reduceEq]; refine WRun.done _ _ (hK _ _ ?_); clear hK)))
    refine W_cond_true (by simp only [go_sem, Nat.reduceEqDiff, Nat.reduceLT, Nat.reduceAdd, Nat.reduceLeDiff, Nat.reduceMul, Nat.reduceSub, Int.reduceLE, Int.reduceLT, Int.reduceToNat, Int.reducePow, Int.reduceEq]) ?_
    (repeat (first | refine W_seq ?_ | refine W_block ?_ | refine W_blk ?_ | refine W_skip ?_ | (refine W_region [] (by rfl) fun K hK => ?_; simp only [go_sem, Nat.reduceEqDiff, Nat.reduceLT, Nat.reduceAdd, Nat.reduceLeDiff, Nat.reduceMul, Nat.reduceSub, Int.reduceLE, Int.reduceLT, Int.reduceToNat, Int.reducePow, Int.reduceEq]; refine WRun.done _ _ (hK _ _ ?_); clear hK)))
    refine W_ret ?_
    simp only [go_sem, Nat.reduceEqDiff, Nat.reduceLT, Nat.reduceAdd, Nat.reduceLeDiff, Nat.reduceMul, Nat.reduceSub, Int.reduceLE, Int.reduceLT, Int.reduceToNat, Int.reducePow, Int.reduceEq]
    exact hx4.out
  · subst hn
    obtain ⟨hc, hU', heq, _⟩ := hres m' rfl
    rcases ho with ⟨rfl, _, _, m2, s', r', hm', hs', hb'⟩ | ⟨rfl, hno, _⟩
    · injection hm' with hm'
      subst hm'
      simp only [go_sem, Nat.reduceEqDiff, Nat.reduceLT, Nat.reduceAdd, Nat.reduceLeDiff, Nat.reduceMul, Nat.reduceSub, Int.reduceLE, Int.reduceLT, Int.reduceToNat, Int.reducePow, Int.reduceEq]
      (refine WRun.done _ _ (hK _ _ ?_); clear hK)
      (repeat (first | refine W_seq ?_ | refine W_block ?_ | refine W_blk ?_ | refine W_skip ?_))
      (refine W_draw [] (fun X => X = M4) mixed_ (by rfl) ?_ fun K hK => ?_)
      · rfl
      (refine DR_quiet [0, 1, 2, 3, 4, 5, 6, 7, 8, 9, 10, 11, 12, 13, 14, 16] (by decide +kernel) (fun M_ hS_ => ?_) (fun K2 hK2 => ?_); (focus (simp only [go_sem, Nat.reduceEqDiff, Nat.reduceLT, Nat.reduceAdd, Nat.reduceLeDiff, Nat.reduceMul, Nat.reduceSub, Int.reduceLE, Int.reduceLT, Int.reduceToNat, Int.reducePow, Int.reduceEq, hS_, h84, h104])); simp only [go_sem, Nat.reduceEqDiff, Nat.reduceLT, Nat.reduceAdd, Nat.reduceLeDiff, Nat.reduceMul, Nat.reduceSub, Int.reduceLE, Int.reduceLT, Int.reduceToNat, Int.reducePow, Int.reduceEq, h84, h104]; refine hK2 _ ?_; clear hK2)
      (refine DR_sole' 15 (by decide +kernel) (by simp only [go_sem, Nat.reduceEqDiff, Nat.reduceLT, Nat.reduceAdd, Nat.reduceLeDiff, Nat.reduceMul, Nat.reduceSub, Int.reduceLE, Int.reduceLT, Int.reduceToNat, Int.reducePow, Int.reduceEq]) ?_; simp only [go_sem, Nat.reduceEqDiff, Nat.reduceLT, Nat.reduceAdd, Nat.reduceLeDiff, Nat.reduceMul, Nat.reduceSub, Int.reduceLE, Int.reduceLT, Int.reduceToNat, Int.reducePow, Int.reduceEq])
      refine ACalls.at (text_ok _ A.1 (Nat.le_refl _) ra hSa (by omega) M4 (.inl hva)) (by simp only [go_sem, Nat.reduceEqDiff, Nat.reduceLT, Nat.reduceAdd, Nat.reduceLeDiff, Nat.reduceMul, Nat.reduceSub, Int.reduceLE, Int.reduceLT, Int.reduceToNat, Int.reducePow, Int.reduceEq, enc_eq]) ?_
      rintro v Mv ⟨rfl, hMv⟩
      subst Mv
      refine ⟨rfl, ?_⟩
      (refine DR_sole' 17 (by decide +kernel) (by simp only [go_sem, Nat.reduceEqDiff, Nat.reduceLT, Nat.reduceAdd, Nat.reduceLeDiff, Nat.reduceMul, Nat.reduceSub, Int.reduceLE, Int.reduceLT, Int.reduceToNat, Int.reducePow, Int.reduceEq]) ?_; simp only [go_sem, Nat.reduceEqDiff, Nat.reduceLT, Nat.reduceAdd, Nat.reduceLeDiff, Nat.reduceMul, Nat.reduceSub, Int.reduceLE, Int.reduceLT, Int.reduceToNat, Int.reducePow, Int.reduceEq])
      refine ACalls.at (text_ok _ B.1 (Nat.le_refl _) rb hSb (by omega) M4 (.inl hvb)) (by simp only [go_sem, Nat.reduceEqDiff, Nat.reduceLT, Nat.reduceAdd, Nat.reduceLeDiff, Nat.reduceMul, Nat.reduceSub, Int.reduceLE, Int.reduceLT, Int.reduceToNat, Int.reducePow, Int.reduceEq, enc_eq]) ?_
      rintro v Mv ⟨rfl, hMv⟩
      subst Mv
      refine ⟨rfl, ?_⟩
      (refine DR_quiet [18, 19, 20] (by decide +kernel) (fun M_ hS_ => ?_) (fun K2 hK2 => ?_); (focus (simp only [go_sem, Nat.reduceEqDiff, Nat.reduceLT, Nat.reduceAdd, Nat.reduceLeDiff, Nat.reduceMul, Nat.reduceSub, Int.reduceLE, Int.reduceLT, Int.reduceToNat, Int.reducePow, Int.reduceEq, hS_, hadd, strEq_self])); simp only [go_sem, Nat.reduceEqDiff, Nat.reduceLT, Nat.reduceAdd, Nat.reduceLeDiff, Nat.reduceMul, Nat.reduceSub, Int.reduceLE, Int.reduceLT, Int.reduceToNat, Int.reducePow, Int.reduceEq, hadd, strEq_self]; refine hK2 _ ?_; clear hK2)
      (refine DR_end (by decide +kernel) (hK _ _ ?_); clear hK)
      refine W_cond_false (by simp only [go_sem, Nat.reduceEqDiff, Nat.reduceLT, Nat.reduceAdd, Nat.reduceLeDiff, Nat.reduceMul, Nat.reduceSub, Int.reduceLE, Int.reduceLT, Int.reduceToNat, Int.reducePow, Int.reduceEq, strEq_self]) ?_
      (repeat (first | refine W_seq ?_ | refine W_block ?_ | refine W_blk ?_ | refine W_skip ?_ | (refine W_region [] (by rfl) fun K hK => ?_; simp only [go_sem, Nat.reduceEqDiff, Nat.reduceLT, Nat.reduceAdd, Nat.reduceLeDiff, Nat.reduceMul, Nat.reduceSub, Int.reduceLE, Int.reduceLT, Int.reduceToNat, Int.reducePow, Int.reduceEq]; refine WRun.done _ _ (hK _ _ ?_); clear hK)))
      refine W_cond_false (by simp only [go_sem, Nat.reduceEqDiff, Nat.reduceLT, Nat.reduceAdd, Nat.reduceLeDiff, Nat.reduceMul, Nat.reduceSub, Int.reduceLE, Int.reduceLT, Int.reduceToNat, Int.reducePow, Int.reduceEq]) ?_
      (repeat (first | refine W_seq ?_ | refine W_block ?_ | refine W_blk ?_ | refine W_skip ?_ | (refine W_region [] (by rfl) fun K hK => ?_; simp only [go_sem, Nat.reduceEqDiff, Nat.reduceLT, Nat.reduceAdd, Nat.reduceLeDiff, Nat.reduceMul, Nat.reduceSub, Int.reduceLE, Int.reduceLT, Int.reduceToNat, Int.reducePow, Int.reduceEq]; refine WRun.done _ _ (hK _ _ ?_); clear hK)))
      have lenL := hR'.len
      have za2 := hU'.size A.1
      have zb2 := hU'.size B.1
      have zt2 := hU'.size tAll
      rw [tAll_size] at zt2
      have hArm : ∀ v, Ar (m' v) := fun v => by
        have := Ar_appl hl' (t := .var v) trivial
        rw [hR'.appl] at this
        exact this
      have rA := Ar_sub hArm ra
      have rB := Ar_sub hArm rb
      have rT := Ar_sub hArm tAll_ar
      have vA : ∀ v ∈ (A.1.sub m').vars, v < 6 := hU'.vars Ta.lt
      have vB : ∀ v ∈ (B.1.sub m').vars, v < 6 := hU'.vars Tb.lt
      have vT : ∀ v ∈ (tAll.sub m').vars, v < 6 := hU'.vars tAll_lt
      have sA := Sm_of (SN_sub hU'.sn Ta.sn) (hU'.VB Ta.lt)
      have sB := Sm_of (SN_sub hU'.sn Tb.sn) (hU'.VB Tb.lt)
      have vBT : VB (tAll.sub m') := hU'.VB tAll_lt
      have sT := Sm_of (canon_SN (SN_sub hU'.sn tAll_sn)) (canon_VB vBT)
      have rCT := canon_Ar rT
      have zCT := canon_size (tAll.sub m')
      have vCT : ∀ v ∈ (canon (tAll.sub m')).vars, v < 100 := fun v hv => by have := canon_lt vT v hv; omega
      (refine W_draw [] (fun X => X = M4) mixed_ (by rfl) ?_ fun K hK => ?_)
      · rfl
      (refine DR_quiet [0, 1, 3, 4] (by decide +kernel) (fun M_ hS_ => ?_) (fun K2 hK2 => ?_); (focus (simp only [go_sem, Nat.reduceEqDiff, Nat.reduceLT, Nat.reduceAdd, Nat.reduceLeDiff, Nat.reduceMul, Nat.reduceSub, Int.reduceLE, Int.reduceLT, Int.reduceToNat, Int.reducePow, Int.reduceEq, hS_, h84, h104])); simp only [go_sem, Nat.reduceEqDiff, Nat.reduceLT, Nat.reduceAdd, Nat.reduceLeDiff, Nat.reduceMul, Nat.reduceSub, Int.reduceLE, Int.reduceLT, Int.reduceToNat, Int.reducePow, Int.reduceEq, h84, h104]; refine hK2 _ ?_; clear hK2)
      (refine DR_sole' 2 (by decide +kernel) (by simp only [go_sem, Nat.reduceEqDiff, Nat.reduceLT, Nat.reduceAdd, Nat.reduceLeDiff, Nat.reduceMul, Nat.reduceSub, Int.reduceLE, Int.reduceLT, Int.reduceToNat, Int.reducePow, Int.reduceEq]) ?_; simp only [go_sem, Nat.reduceEqDiff, Nat.reduceLT, Nat.reduceAdd, Nat.reduceLeDiff, Nat.reduceMul, Nat.reduceSub, Int.reduceLE, Int.reduceLT, Int.reduceToNat, Int.reducePow, Int.reduceEq])
      refine ACalls.at (apply_ok hs' hb' M.length _ A.1 (Nat.le_refl _) ra M4 h34) (by simp only [go_sem, Nat.reduceEqDiff, Nat.reduceLT, Nat.reduceAdd, Nat.reduceLeDiff, Nat.reduceMul, Nat.reduceSub, Int.reduceLE, Int.reduceLT, Int.reduceToNat, Int.reducePow, Int.reduceEq, enc_eq, f3]) ?_
      rintro v Mv ⟨rfl, hMv⟩
      subst Mv
      refine ⟨rfl, ?_⟩
      (refine DR_sole' 5 (by decide +kernel) (by simp only [go_sem, Nat.reduceEqDiff, Nat.reduceLT, Nat.reduceAdd, Nat.reduceLeDiff, Nat.reduceMul, Nat.reduceSub, Int.reduceLE, Int.reduceLT, Int.reduceToNat, Int.reducePow, Int.reduceEq]) ?_; simp only [go_sem, Nat.reduceEqDiff, Nat.reduceLT, Nat.reduceAdd, Nat.reduceLeDiff, Nat.reduceMul, Nat.reduceSub, Int.reduceLE, Int.reduceLT, Int.reduceToNat, Int.reducePow, Int.reduceEq])
      refine ACalls.at (apply_ok hs' hb' M.length _ B.1 (Nat.le_refl _) rb M4 h34) (by simp only [go_sem, Nat.reduceEqDiff, Nat.reduceLT, Nat.reduceAdd, Nat.reduceLeDiff, Nat.reduceMul, Nat.reduceSub, Int.reduceLE, Int.reduceLT, Int.reduceToNat, Int.reducePow, Int.reduceEq, enc_eq, f3]) ?_
      rintro v Mv ⟨rfl, hMv⟩
      subst Mv
      refine ⟨rfl, ?_⟩
      (refine DR_sole' 6 (by decide +kernel) (by simp only [go_sem, Nat.reduceEqDiff, Nat.reduceLT, Nat.reduceAdd, Nat.reduceLeDiff, Nat.reduceMul, Nat.reduceSub, Int.reduceLE, Int.reduceLT, Int.reduceToNat, Int.reducePow, Int.reduceEq]) ?_; simp only [go_sem, Nat.reduceEqDiff, Nat.reduceLT, Nat.reduceAdd, Nat.reduceLeDiff, Nat.reduceMul, Nat.reduceSub, Int.reduceLE, Int.reduceLT, Int.reduceToNat, Int.reducePow, Int.reduceEq])
      refine ACalls.at (like_ok (A.1.sub m') (B.1.sub m') rA sA (by omega) rB sB (by omega) M4 (.inl ⟨fun v hv => by have := vA v hv; omega, fun v hv => by have := vB v hv; omega⟩)) (by simp only [go_sem, Nat.reduceEqDiff, Nat.reduceLT, Nat.reduceAdd, Nat.reduceLeDiff, Nat.reduceMul, Nat.reduceSub, Int.reduceLE, Int.reduceLT, Int.reduceToNat, Int.reducePow, Int.reduceEq]) ?_
      rintro v Mv ⟨rfl, hMv⟩
      subst Mv
      rw [heq, strEq_self]
      refine ⟨rfl, ?_⟩
      (refine DR_quiet [7, 8, 9, 10, 13, 14] (by decide +kernel) (fun M_ hS_ => ?_) (fun K2 hK2 => ?_); (focus (simp only [go_sem, Nat.reduceEqDiff, Nat.reduceLT, Nat.reduceAdd, Nat.reduceLeDiff, Nat.reduceMul, Nat.reduceSub, Int.reduceLE, Int.reduceLT, Int.reduceToNat, Int.reducePow, Int.reduceEq, hS_, h54, f5])); simp only [go_sem, Nat.reduceEqDiff, Nat.reduceLT, Nat.reduceAdd, Nat.reduceLeDiff, Nat.reduceMul, Nat.reduceSub, Int.reduceLE, Int.reduceLT, Int.reduceToNat, Int.reducePow, Int.reduceEq, h54, f5]; refine hK2 _ ?_; clear hK2)
      (refine DR_sole' 11 (by decide +kernel) (by simp only [go_sem, Nat.reduceEqDiff, Nat.reduceLT, Nat.reduceAdd, Nat.reduceLeDiff, Nat.reduceMul, Nat.reduceSub, Int.reduceLE, Int.reduceLT, Int.reduceToNat, Int.reducePow, Int.reduceEq]) ?_; simp only [go_sem, Nat.reduceEqDiff, Nat.reduceLT, Nat.reduceAdd, Nat.reduceLeDiff, Nat.reduceMul, Nat.reduceSub, Int.reduceLE, Int.reduceLT, Int.reduceToNat, Int.reducePow, Int.reduceEq])
      refine ACalls.at (apply_ok hs' hb' M.length _ tAll (Nat.le_refl _) tAll_ar M4 h34) (by simp only [go_sem, Nat.reduceEqDiff, Nat.reduceLT, Nat.reduceAdd, Nat.reduceLeDiff, Nat.reduceMul, Nat.reduceSub, Int.reduceLE, Int.reduceLT, Int.reduceToNat, Int.reducePow, Int.reduceEq, enc_eq, f3, tAll, hav]) ?_
      rintro v Mv ⟨rfl, hMv⟩
      subst Mv
      refine ⟨rfl, ?_⟩
      (refine DR_sole' 12 (by decide +kernel) (by simp only [go_sem, Nat.reduceEqDiff, Nat.reduceLT, Nat.reduceAdd, Nat.reduceLeDiff, Nat.reduceMul, Nat.reduceSub, Int.reduceLE, Int.reduceLT, Int.reduceToNat, Int.reducePow, Int.reduceEq]) ?_; simp only [go_sem, Nat.reduceEqDiff, Nat.reduceLT, Nat.reduceAdd, Nat.reduceLeDiff, Nat.reduceMul, Nat.reduceSub, Int.reduceLE, Int.reduceLT, Int.reduceToNat, Int.reducePow, Int.reduceEq])
      refine PCalls.at (rcanon_ok (tAll.sub m') rT vBT) (by simp only [go_sem, Nat.reduceEqDiff, Nat.reduceLT, Nat.reduceAdd, Nat.reduceLeDiff, Nat.reduceMul, Nat.reduceSub, Int.reduceLE, Int.reduceLT, Int.reduceToNat, Int.reducePow, Int.reduceEq]) ⟨rfl, ?_⟩
      (refine DR_sole' 15 (by decide +kernel) (by simp only [go_sem, Nat.reduceEqDiff, Nat.reduceLT, Nat.reduceAdd, Nat.reduceLeDiff, Nat.reduceMul, Nat.reduceSub, Int.reduceLE, Int.reduceLT, Int.reduceToNat, Int.reducePow, Int.reduceEq]) ?_; simp only [go_sem, Nat.reduceEqDiff, Nat.reduceLT, Nat.reduceAdd, Nat.reduceLeDiff, Nat.reduceMul, Nat.reduceSub, Int.reduceLE, Int.reduceLT, Int.reduceToNat, Int.reducePow, Int.reduceEq])
      refine PCalls.at (rapply_ok l' tAll hl' (by omega) tAll_ar) (by simp only [go_sem, Nat.reduceEqDiff, Nat.reduceLT, Nat.reduceAdd, Nat.reduceLeDiff, Nat.reduceMul, Nat.reduceSub, Int.reduceLE, Int.reduceLT, Int.reduceToNat, Int.reducePow, Int.reduceEq, enc_eq, tAll, hav]) ⟨rfl, ?_⟩
      rw [hR'.appl]
      (refine DR_sole' 16 (by decide +kernel) (by simp only [go_sem, Nat.reduceEqDiff, Nat.reduceLT, Nat.reduceAdd, Nat.reduceLeDiff, Nat.reduceMul, Nat.reduceSub, Int.reduceLE, Int.reduceLT, Int.reduceToNat, Int.reducePow, Int.reduceEq]) ?_; simp only [go_sem, Nat.reduceEqDiff, Nat.reduceLT, Nat.reduceAdd, Nat.reduceLeDiff, Nat.reduceMul, Nat.reduceSub, Int.reduceLE, Int.reduceLT, Int.reduceToNat, Int.reducePow, Int.reduceEq])
      refine PCalls.at (rcanon_ok (tAll.sub m') rT vBT) (by simp only [go_sem, Nat.reduceEqDiff, Nat.reduceLT, Nat.reduceAdd, Nat.reduceLeDiff, Nat.reduceMul, Nat.reduceSub, Int.reduceLE, Int.reduceLT, Int.reduceToNat, Int.reducePow, Int.reduceEq]) ⟨rfl, ?_⟩
      (refine DR_sole' 17 (by decide +kernel) (by simp only [go_sem, Nat.reduceEqDiff, Nat.reduceLT, Nat.reduceAdd, Nat.reduceLeDiff, Nat.reduceMul, Nat.reduceSub, Int.reduceLE, Int.reduceLT, Int.reduceToNat, Int.reducePow, Int.reduceEq]) ?_; simp only [go_sem, Nat.reduceEqDiff, Nat.reduceLT, Nat.reduceAdd, Nat.reduceLeDiff, Nat.reduceMul, Nat.reduceSub, Int.reduceLE, Int.reduceLT, Int.reduceToNat, Int.reducePow, Int.reduceEq])
      refine ACalls.at (like_ok (canon (tAll.sub m')) (canon (tAll.sub m')) rCT sT (by omega) rCT sT (by omega) M4 (.inl ⟨vCT, vCT⟩)) (by simp only [go_sem, Nat.reduceEqDiff, Nat.reduceLT, Nat.reduceAdd, Nat.reduceLeDiff, Nat.reduceMul, Nat.reduceSub, Int.reduceLE, Int.reduceLT, Int.reduceToNat, Int.reducePow, Int.reduceEq]) ?_
      rintro v Mv ⟨rfl, hMv⟩
      subst Mv
      rw [strEq_self]
      refine ⟨rfl, ?_⟩
      (refine DR_quiet [18, 19] (by decide +kernel) (fun M_ hS_ => ?_) (fun K2 hK2 => ?_); (focus (simp only [go_sem, Nat.reduceEqDiff, Nat.reduceLT, Nat.reduceAdd, Nat.reduceLeDiff, Nat.reduceMul, Nat.reduceSub, Int.reduceLE, Int.reduceLT, Int.reduceToNat, Int.reducePow, Int.reduceEq, hS_])); simp only [go_sem, Nat.reduceEqDiff, Nat.reduceLT, Nat.reduceAdd, Nat.reduceLeDiff, Nat.reduceMul, Nat.reduceSub, Int.reduceLE, Int.reduceLT, Int.reduceToNat, Int.reducePow, Int.reduceEq]; refine hK2 _ ?_; clear hK2)
      (refine DR_end (by decide +kernel) (hK _ _ ?_); clear hK)
      refine W_cond_false (by simp only [go_sem, Nat.reduceEqDiff, Nat.reduceLT, Nat.reduceAdd, Nat.reduceLeDiff, Nat.reduceMul, Nat.reduceSub, Int.reduceLE, Int.reduceLT, Int.reduceToNat, Int.reducePow, Int.reduceEq]) ?_
      refine W_skip ?_
      refine hk _ M4 hx4 ?_ ?_ ?_ ?_ h54 m' es4 s' r' l' .dull hU' hs' hb' h34 ?_ hR' hl'
      · simp only [go_sem, Nat.reduceEqDiff, Nat.reduceLT, Nat.reduceAdd, Nat.reduceLeDiff, Nat.reduceMul, Nat.reduceSub, Int.reduceLE, Int.reduceLT, Int.reduceToNat, Int.reducePow, Int.reduceEq, f0]
      · simp only [go_sem, Nat.reduceEqDiff, Nat.reduceLT, Nat.reduceAdd, Nat.reduceLeDiff, Nat.reduceMul, Nat.reduceSub, Int.reduceLE, Int.reduceLT, Int.reduceToNat, Int.reducePow, Int.reduceEq, f3]
      · simp only [go_sem, Nat.reduceEqDiff, Nat.reduceLT, Nat.reduceAdd, Nat.reduceLeDiff, Nat.reduceMul, Nat.reduceSub, Int.reduceLE, Int.reduceLT, Int.reduceToNat, Int.reducePow, Int.reduceEq, f5]
      · simp only [go_sem, Nat.reduceEqDiff, Nat.reduceLT, Nat.reduceAdd, Nat.reduceLeDiff, Nat.reduceMul, Nat.reduceSub, Int.reduceLE, Int.reduceLT, Int.reduceToNat, Int.reducePow, Int.reduceEq, f7]
      · simp only [go_sem, Nat.reduceEqDiff, Nat.reduceLT, Nat.reduceAdd, Nat.reduceLeDiff, Nat.reduceMul, Nat.reduceSub, Int.reduceLE, Int.reduceLT, Int.reduceToNat, Int.reducePow, Int.reduceEq]
    · rcases hno with h | h
      · cases h
      · omega
end Go.Ax

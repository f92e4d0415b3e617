/- What variables stand for, as a map; looking there. Conditions: none. -/
import Derived.Test.YtfpmohmhiecjfaaDoorUnF
set_option linter.unusedSimpArgs false
set_option linter.unusedVariables false
namespace Go.Ax
open Go.Proofs Go.Uni

/-- A part of a code, by its way. -/
def part : List Nat → Code → Code
  | [], c => c
  | 0 :: p, .seq a _ => part p a
  | _ :: p, .seq _ b => part p b
  | 0 :: p, .cond _ a _ => part p a
  | _ :: p, .cond _ _ b => part p b
  | _ :: p, .loop c => part p c
  | _ :: p, .block _ c => part p c
  | _, c => c
noncomputable def body39 : Code := Tryd.f39.body.getD .skip

structure SMap (es : List (Value × V)) (s : Nat → Option Ty) : Prop where
  get : ∀ n : Nat, aget es (.int .i64 (n : Int)) = some ((s n).map enc)
  ar : ∀ n t, s n = some t → Ar t
  closed : ∀ p ∈ es, p.2.closed = true
  keys : ∀ p ∈ es, ∃ k : Int, p.1 = .int .i64 k

@[go_sem] theorem keyOk_int (n : Int) : keyOk (TK.int IntKind.i64) (Value.int IntKind.i64 n) = true := rfl
theorem keyEq_int (a b : Int) : keyEq (.int .i64 a) (.int .i64 b) = some (decide (a = b)) := rfl
theorem aput_get : ∀ {es : List (Value × V)} (h : ∀ p ∈ es, ∃ k : Int, p.1 = .int .i64 k) (n : Int) (x : V), ∃ es', aput es (.int .i64 n) x = some es' ∧ (∀ p ∈ es', ∃ k : Int, p.1 = .int .i64 k) ∧ (∀ p ∈ es', p ∈ es ∨ p.2 = x) ∧
    ∀ k : Int, aget es' (.int .i64 k) = if k = n then some (some x) else aget es (.int .i64 k)
  | [], h, n, x => by
    refine ⟨[(.int .i64 n, x)], rfl, fun p hp => ?_, fun p hp => ?_, fun k => ?_⟩
    · simp at hp; subst hp; exact ⟨n, rfl⟩
    · simp at hp; subst hp; exact .inr rfl
    · simp only [aget, keyEq_int]
      by_cases hk : k = n <;> simp [hk]
  | (k0, v) :: es, h, n, x => by
    obtain ⟨k1, hk1⟩ := h (k0, v) (by simp)
    obtain rfl : k0 = .int .i64 k1 := hk1
    obtain ⟨es', h1, h2, h3, h4⟩ := aput_get (es := es) (fun p hp => h p (by simp [hp])) n x
    by_cases hk : n = k1
    · subst hk
      refine ⟨(.int .i64 n, x) :: es, by simp [aput, keyEq_int], fun p hp => ?_, fun p hp => ?_, fun k => ?_⟩
      · rcases List.mem_cons.1 hp with rfl | hp
        · exact ⟨n, rfl⟩
        · exact h p (by simp [hp])
      · rcases List.mem_cons.1 hp with rfl | hp
        · exact .inr rfl
        · exact .inl (by simp [hp])
      · simp only [aget, keyEq_int]
        by_cases hkn : k = n <;> simp [hkn]
    · refine ⟨(.int .i64 k1, v) :: es', by simp [aput, keyEq_int, hk, h1], fun p hp => ?_, fun p hp => ?_, fun k => ?_⟩
      · rcases List.mem_cons.1 hp with rfl | hp
        · exact ⟨k1, rfl⟩
        · exact h2 p hp
      · rcases List.mem_cons.1 hp with rfl | hp
        · exact .inl (by simp)
        · rcases h3 p hp with h5 | h5
          · exact .inl (by simp [h5])
          · exact .inr h5
      · simp only [aget, keyEq_int, h4 k]
        by_cases hkn : k = n
        · subst hkn
          have hk' : ¬ k1 = k := fun e => hk e.symm
          simp [hk]
        · rcases Decidable.em (k = k1) with rfl | hk1
          · simp [hkn]
          · simp [hkn, hk1]
theorem SMap.start : SMap [] (fun _ => none) := ⟨fun _ => rfl, fun _ _ h => (by cases h), fun _ h => (by cases h), fun _ h => (by cases h)⟩
theorem SMap.put {es : List (Value × V)} {s : Nat → Option Ty} (h : SMap es s) (n : Nat) {b : Ty} (hb : Ar b) : ∃ es', aput es (.int .i64 (n : Int)) (enc b) = some es' ∧ SMap es' (fun v => if v = n then some b else s v) := by
  obtain ⟨es', h1, h2, h3, h4⟩ := aput_get h.keys (n : Int) (enc b)
  refine ⟨es', h1, fun k => ?_, fun k t hk => ?_, fun p hp => ?_, h2⟩
  · rw [h4, h.get]
    by_cases hk : k = n
    · subst hk; simp
    · have : ¬ (k : Int) = (n : Int) := by omega
      simp [hk, this]
  · by_cases hkn : k = n
    · simp [hkn] at hk; subst hk; exact hb
    · simp [hkn] at hk; exact h.ar k t hk
  · rcases h3 p hp with h5 | h5
    · exact h.closed p h5
    · rw [h5]; exact enc_closed b

def rk (r : Nat → Nat) : Ty → Nat
  | .var n => r n + 1
  | .app _ _ => 0

set_option maxHeartbeats 4000000 in
theorem look_ok {es : List (Value × V)} {s : Nat → Option Ty} {m : Nat → Ty} {r : Nat → Nat} (hs : SMap es s) (hm : Sbs s m r) (t : Ty) (ht : Ar t) (i : Nat) (M : AMem) (hi : M[i]? = some (.map es)) :
    ACalls Tryd.prog 39 [.map i, enc t] M (fun v M' => M' = M ∧ ∃ t', v = enc t' ∧ t'.sub m = t.sub m ∧ Ar t' ∧ ((∃ n, t' = .var n ∧ s n = none) ∨ ∃ f l, t' = .app f l)) := by
  refine ACalls.shrink (R := fun v M' => Ext M M' ∧ ∃ t', v = enc t' ∧ t'.sub m = t.sub m ∧ Ar t' ∧ ((∃ n, t' = .var n ∧ s n = none) ∨ ∃ f l, t' = .app f l)) ?_ ?_
  · refine acalls_enter [.cell 4 30] 21 Tryd.func39 rfl rfl rfl (by simp) ?_
    have hil := (List.getElem?_eq_some_iff.1 hi).1
    (repeat (first | refine W_seq ?_ | refine W_block ?_ | refine W_blk ?_ | refine W_skip ?_ | (refine W_region [] (by rfl) fun K hK => ?_; simp only [go_sem, Nat.reduceEqDiff, Nat.reduceLT, Nat.reduceAdd, Nat.reduceLeDiff, Nat.reduceMul, Nat.reduceSub, Int.reduceLE, Int.reduceLT, Int.reduceToNat, Int.reducePow, Int.reduceEq]; refine WRun.done _ _ (hK _ _ ?_); clear hK)))
    refine W_loop (α := Ty) (fun t' F' M' => t'.sub m = t.sub m ∧ Ar t' ∧ Ext M M' ∧ look F' 0 = .map i ∧ look F' 3 = .ptr M.length 0 ∧ look F' 4 = .ptr (M.length + 1) 0 ∧ M'[M.length]? = some (.cells (enc t').cells) ∧ ∃ a b c, M'[M.length + 1]? = some (.cells [a, b, c]))
      (rk r) t ⟨rfl, ht, ?_, ?_, ?_, ?_, ?_, V.int 0, V.str ⟨#[]⟩, .list .full [], ?_⟩ ?_
    · exact ((Ext.refl M).app _).app _
    · simp only [go_sem, Nat.reduceEqDiff, Nat.reduceLT, Nat.reduceAdd, Nat.reduceLeDiff, Nat.reduceMul, Nat.reduceSub, Int.reduceLE, Int.reduceLT, Int.reduceToNat, Int.reducePow, Int.reduceEq]
    · simp only [go_sem, Nat.reduceEqDiff, Nat.reduceLT, Nat.reduceAdd, Nat.reduceLeDiff, Nat.reduceMul, Nat.reduceSub, Int.reduceLE, Int.reduceLT, Int.reduceToNat, Int.reducePow, Int.reduceEq]
    · simp only [go_sem, Nat.reduceEqDiff, Nat.reduceLT, Nat.reduceAdd, Nat.reduceLeDiff, Nat.reduceMul, Nat.reduceSub, Int.reduceLE, Int.reduceLT, Int.reduceToNat, Int.reducePow, Int.reduceEq]
    · rw [cells_enc]; exact at_app (at_snoc rfl)
    · exact at_snoc (by simp)
    rintro t' F' M' ⟨h1, h2, hx, f0, f3, f4, h3, a, b, c, h4⟩
    have hfin : ∀ F'' M'', Ext M M'' → look F'' 3 = .ptr M.length 0 → look F'' 4 = .ptr (M.length + 1) 0 → M''[M.length]? = some (.cells (enc t').cells) → (∃ a b c, M''[M.length + 1]? = some (.cells [a, b, c])) → ((∃ n, t' = .var n ∧ s n = none) ∨ ∃ f l, t' = .app f l) →
        W Tryd.prog 21 (RetA Tryd.prog [ResultVar.cell 4 30] (fun v M' => Ext M M' ∧ ∃ t', v = enc t' ∧ t'.sub m = t.sub m ∧ Ar t' ∧ ((∃ n, t' = .var n ∧ s n = none) ∨ ∃ f l, t' = .app f l))) [.code (part [1,1] body39)] F'' M'' := by
      rintro F'' M'' hx' g3 g4 k3 ⟨a, b, c, k4⟩ hc
      rw [cells_enc] at k3
      (repeat (first | refine W_seq ?_ | refine W_block ?_ | refine W_blk ?_ | refine W_skip ?_ | (refine W_region [] (by rfl) fun K hK => ?_; simp only [go_sem, Nat.reduceEqDiff, Nat.reduceLT, Nat.reduceAdd, Nat.reduceLeDiff, Nat.reduceMul, Nat.reduceSub, Int.reduceLE, Int.reduceLT, Int.reduceToNat, Int.reducePow, Int.reduceEq, g3, g4, k3, k4]; refine WRun.done _ _ (hK _ _ ?_); clear hK)))
      have h5 := List.getElem?_set_self (a := AObj.cells [V.int (hd t'), V.str (nm t'), .list .dull (encL (ar t'))]) (List.getElem?_eq_some_iff.1 k4).1
      have h6 := (hx'.set (k := M.length + 1) (by omega) (.cells [V.int (hd t'), V.str (nm t'), .list .dull (encL (ar t'))]))
      refine W_ret ?_
      simp only [go_sem, Nat.reduceEqDiff, Nat.reduceLT, Nat.reduceAdd, Nat.reduceLeDiff, Nat.reduceMul, Nat.reduceSub, Int.reduceLE, Int.reduceLT, Int.reduceToNat, Int.reducePow, Int.reduceEq, g4, h5]
      exact ⟨h6, t', (enc_eq t').symm, h1, h2, hc⟩
    rw [cells_enc] at h3
    cases t' with
    | app f l =>
      (repeat (first | refine W_seq ?_ | refine W_block ?_ | refine W_blk ?_ | refine W_skip ?_ | (refine W_region [] (by rfl) fun K hK => ?_; simp only [go_sem, Nat.reduceEqDiff, Nat.reduceLT, Nat.reduceAdd, Nat.reduceLeDiff, Nat.reduceMul, Nat.reduceSub, Int.reduceLE, Int.reduceLT, Int.reduceToNat, Int.reducePow, Int.reduceEq, f0, f3, h3]; refine WRun.done _ _ (hK _ _ ?_); clear hK)))
      refine W_cond_false (by simp only [go_sem, Nat.reduceEqDiff, Nat.reduceLT, Nat.reduceAdd, Nat.reduceLeDiff, Nat.reduceMul, Nat.reduceSub, Int.reduceLE, Int.reduceLT, Int.reduceToNat, Int.reducePow, Int.reduceEq]) ?_
      refine W_exit (Qof_code (Qof_stop (Qof_blk_same ?_)))
      refine hfin _ _ hx ?_ ?_ (by rw [cells_enc]; exact h3) ⟨a, b, c, h4⟩ (.inr ⟨f, l, rfl⟩)
      · simp only [go_sem, Nat.reduceEqDiff, Nat.reduceLT, Nat.reduceAdd, Nat.reduceLeDiff, Nat.reduceMul, Nat.reduceSub, Int.reduceLE, Int.reduceLT, Int.reduceToNat, Int.reducePow, Int.reduceEq, f3]
      · simp only [go_sem, Nat.reduceEqDiff, Nat.reduceLT, Nat.reduceAdd, Nat.reduceLeDiff, Nat.reduceMul, Nat.reduceSub, Int.reduceLE, Int.reduceLT, Int.reduceToNat, Int.reducePow, Int.reduceEq, f4]
    | var n =>
      have h0 : (0 : Int) ≤ (n : Int) := Int.natCast_nonneg n
      have hg := hs.get n
      have hi2 : M'[i]? = some (.map es) := by rw [hx.2 i hil]; exact hi
      (repeat (first | refine W_seq ?_ | refine W_block ?_ | refine W_blk ?_ | refine W_skip ?_ | (refine W_region [] (by rfl) fun K hK => ?_; simp only [go_sem, Nat.reduceEqDiff, Nat.reduceLT, Nat.reduceAdd, Nat.reduceLeDiff, Nat.reduceMul, Nat.reduceSub, Int.reduceLE, Int.reduceLT, Int.reduceToNat, Int.reducePow, Int.reduceEq, f0, f3, h3]; refine WRun.done _ _ (hK _ _ ?_); clear hK)))
      refine W_cond_true (by simp only [go_sem, Nat.reduceEqDiff, Nat.reduceLT, Nat.reduceAdd, Nat.reduceLeDiff, Nat.reduceMul, Nat.reduceSub, Int.reduceLE, Int.reduceLT, Int.reduceToNat, Int.reducePow, Int.reduceEq, h0]) ?_
      cases hsn : s n with
      | none =>
        rw [hsn] at hg
        (repeat (first | refine W_seq ?_ | refine W_block ?_ | refine W_blk ?_ | refine W_skip ?_ | (refine W_region [] (by rfl) fun K hK => ?_; simp only [go_sem, Nat.reduceEqDiff, Nat.reduceLT, Nat.reduceAdd, Nat.reduceLeDiff, Nat.reduceMul, Nat.reduceSub, Int.reduceLE, Int.reduceLT, Int.reduceToNat, Int.reducePow, Int.reduceEq, f0, f3, h3, hi2, hg]; refine WRun.done _ _ (hK _ _ ?_); clear hK)))
        refine W_cond_true (by simp only [go_sem, Nat.reduceEqDiff, Nat.reduceLT, Nat.reduceAdd, Nat.reduceLeDiff, Nat.reduceMul, Nat.reduceSub, Int.reduceLE, Int.reduceLT, Int.reduceToNat, Int.reducePow, Int.reduceEq]) ?_
        refine W_exit (Qof_code (Qof_blk_other (by decide) (Qof_stop (Qof_blk_same ?_))))
        refine hfin _ _ (hx.app _) ?_ ?_ (by rw [cells_enc]; exact at_app h3) ⟨a, b, c, at_app h4⟩ (.inl ⟨n, rfl, hsn⟩)
        · simp only [go_sem, Nat.reduceEqDiff, Nat.reduceLT, Nat.reduceAdd, Nat.reduceLeDiff, Nat.reduceMul, Nat.reduceSub, Int.reduceLE, Int.reduceLT, Int.reduceToNat, Int.reducePow, Int.reduceEq, f3]
        · simp only [go_sem, Nat.reduceEqDiff, Nat.reduceLT, Nat.reduceAdd, Nat.reduceLeDiff, Nat.reduceMul, Nat.reduceSub, Int.reduceLE, Int.reduceLT, Int.reduceToNat, Int.reducePow, Int.reduceEq, f4]
      | some u =>
        rw [hsn] at hg
        (repeat (first | refine W_seq ?_ | refine W_block ?_ | refine W_blk ?_ | refine W_skip ?_ | (refine W_region [] (by rfl) fun K hK => ?_; simp only [go_sem, Nat.reduceEqDiff, Nat.reduceLT, Nat.reduceAdd, Nat.reduceLeDiff, Nat.reduceMul, Nat.reduceSub, Int.reduceLE, Int.reduceLT, Int.reduceToNat, Int.reducePow, Int.reduceEq, f0, f3, h3, hi2, hg]; refine WRun.done _ _ (hK _ _ ?_); clear hK)))
        refine W_cond_false (by simp only [go_sem, Nat.reduceEqDiff, Nat.reduceLT, Nat.reduceAdd, Nat.reduceLeDiff, Nat.reduceMul, Nat.reduceSub, Int.reduceLE, Int.reduceLT, Int.reduceToNat, Int.reducePow, Int.reduceEq]) ?_
        have h3' : (M' ++ [AObj.cells [V.int (hd u), V.str (nm u), V.list Tag.dull (encL (ar u))]])[M.length]? = _ := at_app h3
        (repeat (first | refine W_seq ?_ | refine W_block ?_ | refine W_blk ?_ | refine W_skip ?_ | (refine W_region [] (by rfl) fun K hK => ?_; simp only [go_sem, Nat.reduceEqDiff, Nat.reduceLT, Nat.reduceAdd, Nat.reduceLeDiff, Nat.reduceMul, Nat.reduceSub, Int.reduceLE, Int.reduceLT, Int.reduceToNat, Int.reducePow, Int.reduceEq, f3, h3']; refine WRun.done _ _ (hK _ _ ?_); clear hK)))
        have hx2 := (hx.app [AObj.cells [V.int (hd u), V.str (nm u), V.list Tag.dull (encL (ar u))]]).set (Nat.le_refl M.length) (.cells [V.int (hd u), V.str (nm u), V.list Tag.dull (encL (ar u))])
        refine W_stop ⟨u, ⟨?_, hs.ar n u hsn, hx2, ?_, ?_, ?_, ?_, a, b, c, ?_⟩, ?_⟩
        · rw [← h1, Ty.sub]; exact (hm.bd n u hsn).symm
        · simp only [go_sem, Nat.reduceEqDiff, Nat.reduceLT, Nat.reduceAdd, Nat.reduceLeDiff, Nat.reduceMul, Nat.reduceSub, Int.reduceLE, Int.reduceLT, Int.reduceToNat, Int.reducePow, Int.reduceEq, f0]
        · simp only [go_sem, Nat.reduceEqDiff, Nat.reduceLT, Nat.reduceAdd, Nat.reduceLeDiff, Nat.reduceMul, Nat.reduceSub, Int.reduceLE, Int.reduceLT, Int.reduceToNat, Int.reducePow, Int.reduceEq, f3]
        · simp only [go_sem, Nat.reduceEqDiff, Nat.reduceLT, Nat.reduceAdd, Nat.reduceLeDiff, Nat.reduceMul, Nat.reduceSub, Int.reduceLE, Int.reduceLT, Int.reduceToNat, Int.reducePow, Int.reduceEq, f4]
        · rw [cells_enc]; exact List.getElem?_set_self (List.getElem?_eq_some_iff.1 h3').1
        · rw [List.getElem?_set_ne (by omega)]; exact at_app h4
        · have := hm.rank n u hsn
          cases u with
          | app f l => simp [rk]
          | var v => have := this v (by simp [Ty.vars]); simp [rk]; omega
  · rintro v M' ⟨hx, t', rfl, h1, h2, h3⟩
    obtain ⟨L, rfl⟩ := hx.out
    exact ⟨_, M, L, rfl, Nat.le_refl _, .inl rfl, V.ids_of_closed (enc_closed _), fun o ho => .inl ho, rfl, t', rfl, h1, h2, h3⟩
end Go.Ax

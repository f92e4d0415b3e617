/- Whether a variable is in what a type comes to. Conditions: none. -/
import Derived.Test.YtfpmohmhiecjfaaDoorUnH
set_option linter.unusedSimpArgs false
set_option linter.unusedVariables false
namespace Go.Ax
open Go.Proofs Go.Uni

structure Seen (es : List (Value × V)) (S : Nat → Bool) : Prop where
  get : ∀ n : Nat, aget es (.int .i64 (n : Int)) = some (if S n then some (V.bool true) else none)
  closed : ∀ p ∈ es, p.2.closed = true
  keys : ∀ p ∈ es, ∃ k : Int, p.1 = .int .i64 k
theorem Seen.start : Seen [] (fun _ => false) := ⟨fun _ => rfl, fun _ h => (by cases h), fun _ h => (by cases h)⟩
theorem Seen.put {es : List (Value × V)} {S : Nat → Bool} (h : Seen es S) (n : Nat) : ∃ es', aput es (.int .i64 (n : Int)) (V.bool true) = some es' ∧ Seen es' (fun v => if v = n then true else S v) := by
  obtain ⟨es', h1, h2, h3, h4⟩ := aput_get h.keys (n : Int) (V.bool true)
  refine ⟨es', h1, fun k => ?_, fun p hp => ?_, h2⟩
  · rw [h4, h.get]
    by_cases hk : k = n
    · subst hk; simp
    · have : ¬ (k : Int) = (n : Int) := by omega
      simp [hk, this]
  · rcases h3 p hp with h5 | h5
    · exact h.closed p h5
    · rw [h5]; rfl
theorem Ext.upd {M M' : AMem} {j : Nat} {x y : AObj} (h : Ext (M.set j x) M') (hj : j < M.length) : Ext (M.set j y) (M'.set j y) := by
  refine ⟨by simpa using h.1, fun k hk => ?_⟩
  have hjl : j < M'.length := by have := h.1; simp at this; omega
  by_cases e : k = j
  · subst e
    rw [List.getElem?_set_self hjl, List.getElem?_set_self hj]
  · rw [List.getElem?_set_ne (by omega), List.getElem?_set_ne (by omega), h.2 k (by simpa using hk), List.getElem?_set_ne (by omega)]
theorem Ext.same {M : AMem} {j : Nat} {x : AObj} (h : M[j]? = some x) : M.set j x = M := by
  refine List.ext_getElem? fun k => ?_
  by_cases e : k = j
  · subst e; rw [List.getElem?_set_self (List.getElem?_eq_some_iff.1 h).1, h]
  · rw [List.getElem?_set_ne (by omega)]
theorem map_ids {es : List (Value × V)} (h : ∀ p ∈ es, p.2.closed = true) (n : Nat) : (AObj.map es).ids n = true := by
  simp only [AObj.ids, List.all_eq_true]
  exact fun p hp => V.ids_of_closed (h p hp)
theorem bool_eq {b : Bool} {p : Prop} [Decidable p] (h : b = true ↔ p) : b = decide p := by
  cases b <;> simp_all

set_option maxHeartbeats 8000000 in
theorem occurs_ok {es : List (Value × V)} {s : Nat → Option Ty} {m : Nat → Ty} {r : Nat → Nat} (hs : SMap es s) (hm : Sbs s m r) (n : Nat) (hn : s n = none) (i j : Nat) (hij : i ≠ j) (Kr N : Nat) (t : Ty) (hN : t.size ≤ N) (hKr : ∀ w ∈ t.vars, r w < Kr) (ht : Ar t) (M : AMem) (hi : M[i]? = some (.map es))
    (es1 : List (Value × V)) (S : Nat → Bool) (hS : Seen es1 S) (hj : M[j]? = some (.map es1)) (hp : ∀ w, S w = true → n ∉ (m w).vars ∨ ∀ x ∈ t.vars, r x < r w) :
    ACalls Tryd.prog 40 [.map i, V.int (n : Int), enc t, .map j] M (fun v M' => ∃ es2 S2, M' = M.set j (.map es2) ∧ Seen es2 S2 ∧ v = V.bool (decide (n ∈ (t.sub m).vars)) ∧ (n ∉ (t.sub m).vars → ∀ w, S2 w = true → S w = true ∨ n ∉ (m w).vars)) := by
  refine ACalls.shrink (R := fun v M' => ∃ es2 S2, Ext (M.set j (.map es2)) M' ∧ Seen es2 S2 ∧ v = V.bool (decide (n ∈ (t.sub m).vars)) ∧ (n ∉ (t.sub m).vars → ∀ w, S2 w = true → S w = true ∨ n ∉ (m w).vars)) ?_ ?_
  · refine acalls_enter [.tmp 8] 61 Tryd.func40 rfl rfl rfl (by simp) ?_
    have hil := (List.getElem?_eq_some_iff.1 hi).1
    have hjl := (List.getElem?_eq_some_iff.1 hj).1
    cases t with
    | var v =>
      have h0 : (0 : Int) ≤ (v : Int) := Int.natCast_nonneg v
      have hg := hs.get v
      have hgs := hS.get v
      (repeat (first | refine W_seq ?_ | refine W_block ?_ | refine W_blk ?_ | refine W_skip ?_ | (refine W_region [6] (by rfl) fun K hK => ?_; simp only [go_sem, Nat.reduceEqDiff, Nat.reduceLT, Nat.reduceAdd, Nat.reduceLeDiff, Nat.reduceMul, Nat.reduceSub, Int.reduceLE, Int.reduceLT, Int.reduceToNat, Int.reducePow, Int.reduceEq]; refine WRun.done _ _ (hK _ _ ?_); clear hK)))
      refine W_cond_true (by simp only [go_sem, Nat.reduceEqDiff, Nat.reduceLT, Nat.reduceAdd, Nat.reduceLeDiff, Nat.reduceMul, Nat.reduceSub, Int.reduceLE, Int.reduceLT, Int.reduceToNat, Int.reducePow, Int.reduceEq, h0]) ?_
      by_cases hvn : v = n
      · subst hvn
        (repeat (first | refine W_seq ?_ | refine W_block ?_ | refine W_blk ?_ | refine W_skip ?_ | (refine W_region [] (by rfl) fun K hK => ?_; simp only [go_sem, Nat.reduceEqDiff, Nat.reduceLT, Nat.reduceAdd, Nat.reduceLeDiff, Nat.reduceMul, Nat.reduceSub, Int.reduceLE, Int.reduceLT, Int.reduceToNat, Int.reducePow, Int.reduceEq]; refine WRun.done _ _ (hK _ _ ?_); clear hK)))
        refine W_cond_true (by simp only [go_sem, Nat.reduceEqDiff, Nat.reduceLT, Nat.reduceAdd, Nat.reduceLeDiff, Nat.reduceMul, Nat.reduceSub, Int.reduceLE, Int.reduceLT, Int.reduceToNat, Int.reducePow, Int.reduceEq]) ?_
        (repeat (first | refine W_seq ?_ | refine W_block ?_ | refine W_blk ?_ | refine W_skip ?_ | (refine W_region [] (by rfl) fun K hK => ?_; simp only [go_sem, Nat.reduceEqDiff, Nat.reduceLT, Nat.reduceAdd, Nat.reduceLeDiff, Nat.reduceMul, Nat.reduceSub, Int.reduceLE, Int.reduceLT, Int.reduceToNat, Int.reducePow, Int.reduceEq]; refine WRun.done _ _ (hK _ _ ?_); clear hK)))
        refine W_ret ?_
        simp only [go_sem, Nat.reduceEqDiff, Nat.reduceLT, Nat.reduceAdd, Nat.reduceLeDiff, Nat.reduceMul, Nat.reduceSub, Int.reduceLE, Int.reduceLT, Int.reduceToNat, Int.reducePow, Int.reduceEq]
        have hmem : v ∈ ((Ty.var v).sub m).vars := by rw [Ty.sub, hm.un v hn]; simp [Ty.vars]
        refine ⟨es1, S, by rw [Ext.same hj]; exact Ext.refl M, hS, by simp [hmem], fun h => absurd hmem h⟩
      · have hvn' : ¬ ((v : Int) = (n : Int)) := by omega
        cases hSv : S v with
        | true =>
          rw [hSv] at hgs
          (repeat (first | refine W_seq ?_ | refine W_block ?_ | refine W_blk ?_ | refine W_skip ?_ | (refine W_region [] (by rfl) fun K hK => ?_; simp only [go_sem, Nat.reduceEqDiff, Nat.reduceLT, Nat.reduceAdd, Nat.reduceLeDiff, Nat.reduceMul, Nat.reduceSub, Int.reduceLE, Int.reduceLT, Int.reduceToNat, Int.reducePow, Int.reduceEq, hvn', hj, hgs]; refine WRun.done _ _ (hK _ _ ?_); clear hK)))
          refine W_cond_true (by simp only [go_sem, Nat.reduceEqDiff, Nat.reduceLT, Nat.reduceAdd, Nat.reduceLeDiff, Nat.reduceMul, Nat.reduceSub, Int.reduceLE, Int.reduceLT, Int.reduceToNat, Int.reducePow, Int.reduceEq]) ?_
          (repeat (first | refine W_seq ?_ | refine W_block ?_ | refine W_blk ?_ | refine W_skip ?_ | (refine W_region [] (by rfl) fun K hK => ?_; simp only [go_sem, Nat.reduceEqDiff, Nat.reduceLT, Nat.reduceAdd, Nat.reduceLeDiff, Nat.reduceMul, Nat.reduceSub, Int.reduceLE, Int.reduceLT, Int.reduceToNat, Int.reducePow, Int.reduceEq, hvn']; refine WRun.done _ _ (hK _ _ ?_); clear hK)))
          refine W_ret ?_
          simp only [go_sem, Nat.reduceEqDiff, Nat.reduceLT, Nat.reduceAdd, Nat.reduceLeDiff, Nat.reduceMul, Nat.reduceSub, Int.reduceLE, Int.reduceLT, Int.reduceToNat, Int.reducePow, Int.reduceEq]
          have hmem : n ∉ ((Ty.var v).sub m).vars := by
            rw [Ty.sub]
            rcases hp v hSv with h | h
            · exact h
            · have := h v (by simp [Ty.vars]); omega
          refine ⟨es1, S, by rw [Ext.same hj]; exact Ext.refl M, hS, by simp [hmem], fun h w hw => .inl hw⟩
        | false =>
          rw [hSv] at hgs
          obtain ⟨es3, a1, a2⟩ := hS.put v
          have hi3 : (M.set j (.map es3))[i]? = some (.map es) := by rw [List.getElem?_set_ne (by omega)]; exact hi
          have hj3 : (M.set j (.map es3))[j]? = some (.map es3) := List.getElem?_set_self hjl
          (repeat (first | refine W_seq ?_ | refine W_block ?_ | refine W_blk ?_ | refine W_skip ?_ | (refine W_region [] (by rfl) fun K hK => ?_; simp only [go_sem, Nat.reduceEqDiff, Nat.reduceLT, Nat.reduceAdd, Nat.reduceLeDiff, Nat.reduceMul, Nat.reduceSub, Int.reduceLE, Int.reduceLT, Int.reduceToNat, Int.reducePow, Int.reduceEq, hvn', hj, hgs]; refine WRun.done _ _ (hK _ _ ?_); clear hK)))
          refine W_cond_false (by simp only [go_sem, Nat.reduceEqDiff, Nat.reduceLT, Nat.reduceAdd, Nat.reduceLeDiff, Nat.reduceMul, Nat.reduceSub, Int.reduceLE, Int.reduceLT, Int.reduceToNat, Int.reducePow, Int.reduceEq]) ?_
          (repeat (first | refine W_seq ?_ | refine W_block ?_ | refine W_blk ?_ | refine W_skip ?_ | (refine W_region [] (by rfl) fun K hK => ?_; simp only [go_sem, Nat.reduceEqDiff, Nat.reduceLT, Nat.reduceAdd, Nat.reduceLeDiff, Nat.reduceMul, Nat.reduceSub, Int.reduceLE, Int.reduceLT, Int.reduceToNat, Int.reducePow, Int.reduceEq, hj, a1]; refine WRun.done _ _ (hK _ _ ?_); clear hK)))
          cases hsv : s v with
          | none =>
            rw [hsv] at hg
            (repeat (first | refine W_seq ?_ | refine W_block ?_ | refine W_blk ?_ | refine W_skip ?_ | (refine W_region [] (by rfl) fun K hK => ?_; simp only [go_sem, Nat.reduceEqDiff, Nat.reduceLT, Nat.reduceAdd, Nat.reduceLeDiff, Nat.reduceMul, Nat.reduceSub, Int.reduceLE, Int.reduceLT, Int.reduceToNat, Int.reducePow, Int.reduceEq, hi3, hg]; refine WRun.done _ _ (hK _ _ ?_); clear hK)))
            refine W_ret ?_
            simp only [go_sem, Nat.reduceEqDiff, Nat.reduceLT, Nat.reduceAdd, Nat.reduceLeDiff, Nat.reduceMul, Nat.reduceSub, Int.reduceLE, Int.reduceLT, Int.reduceToNat, Int.reducePow, Int.reduceEq]
            have hmem : n ∉ ((Ty.var v).sub m).vars := by rw [Ty.sub, hm.un v hsv]; simp [Ty.vars]; omega
            refine ⟨es3, _, (Ext.refl _).app _, a2, by simp [hmem], fun h w hw => ?_⟩
            by_cases e : w = v
            · subst e; exact .inr (by rw [Ty.sub] at hmem; exact hmem)
            · simp [e] at hw; exact .inl hw
          | some u =>
            rw [hsv] at hg
            have hrv : r v < Kr := hKr v (by simp [Ty.vars])
            have hru := hm.rank v u hsv
            (repeat (first | refine W_seq ?_ | refine W_block ?_ | refine W_blk ?_ | refine W_skip ?_))
            (refine W_region [] (by rfl) fun K hK => ?_; simp only [go_sem, Nat.reduceEqDiff, Nat.reduceLT, Nat.reduceAdd, Nat.reduceLeDiff, Nat.reduceMul, Nat.reduceSub, Int.reduceLE, Int.reduceLT, Int.reduceToNat, Int.reducePow, Int.reduceEq, hi3, hg])
            (refine WRun.done _ _ (hK _ _ ?_); clear hK)
            (repeat (first | refine W_seq ?_ | refine W_block ?_ | refine W_blk ?_ | refine W_skip ?_))
            (refine W_region [] (by rfl) fun K hK => ?_; simp only [go_sem, Nat.reduceEqDiff, Nat.reduceLT, Nat.reduceAdd, Nat.reduceLeDiff, Nat.reduceMul, Nat.reduceSub, Int.reduceLE, Int.reduceLT, Int.reduceToNat, Int.reducePow, Int.reduceEq])
            refine ACalls.use (occurs_ok hs hm n hn i j hij (r v) u.size u (Nat.le_refl _) hru (hs.ar v u hsv) _ (at_app hi3) es3 _ a2 (at_app hj3) ?_) (by simp only [go_sem, Nat.reduceEqDiff, Nat.reduceLT, Nat.reduceAdd, Nat.reduceLeDiff, Nat.reduceMul, Nat.reduceSub, Int.reduceLE, Int.reduceLT, Int.reduceToNat, Int.reducePow, Int.reduceEq, enc_eq]) ?_
            · intro w hw
              by_cases e : w = v
              · subst e; exact .inr hru
              · simp [e] at hw
                rcases hp w hw with h | h
                · exact .inl h
                · have := h v (by simp [Ty.vars])
                  exact .inr fun x hx => Nat.lt_trans (hru x hx) this
            rintro r' M2 ⟨es4, S4, rfl, b1, rfl, b2⟩
            simp only [go_sem, Nat.reduceEqDiff, Nat.reduceLT, Nat.reduceAdd, Nat.reduceLeDiff, Nat.reduceMul, Nat.reduceSub, Int.reduceLE, Int.reduceLT, Int.reduceToNat, Int.reducePow, Int.reduceEq]
            (refine WRun.done _ _ (hK _ _ ?_); clear hK)
            refine W_ret ?_
            simp only [go_sem, Nat.reduceEqDiff, Nat.reduceLT, Nat.reduceAdd, Nat.reduceLeDiff, Nat.reduceMul, Nat.reduceSub, Int.reduceLE, Int.reduceLT, Int.reduceToNat, Int.reducePow, Int.reduceEq]
            have hsub : (Ty.var v).sub m = u.sub m := hm.bd v u hsv
            refine ⟨es4, S4, ?_, b1, by rw [hsub], fun h w hw => ?_⟩
            · have := ((Ext.refl (M.set j (.map es3))).app [AObj.cells [V.int (hd u), V.str (nm u), V.list Tag.dull (encL (ar u))]]).upd (y := .map es4) hjl
              exact this
            · rw [hsub] at h
              rcases b2 h w hw with h5 | h5
              · by_cases e : w = v
                · subst e; refine .inr ?_; rw [hm.bd w u hsv]; exact h
                · simp [e] at h5; exact .inl h5
              · exact .inr h5
    | app f l =>
      rw [Ar_app] at ht
      (repeat (first | refine W_seq ?_ | refine W_block ?_ | refine W_blk ?_ | refine W_skip ?_ | (refine W_region [6] (by rfl) fun K hK => ?_; simp only [go_sem, Nat.reduceEqDiff, Nat.reduceLT, Nat.reduceAdd, Nat.reduceLeDiff, Nat.reduceMul, Nat.reduceSub, Int.reduceLE, Int.reduceLT, Int.reduceToNat, Int.reducePow, Int.reduceEq]; refine WRun.done _ _ (hK _ _ ?_); clear hK)))
      refine W_cond_false (by simp only [go_sem, Nat.reduceEqDiff, Nat.reduceLT, Nat.reduceAdd, Nat.reduceLeDiff, Nat.reduceMul, Nat.reduceSub, Int.reduceLE, Int.reduceLT, Int.reduceToNat, Int.reducePow, Int.reduceEq]) ?_
      (repeat (first | refine W_seq ?_ | refine W_block ?_ | refine W_blk ?_ | refine W_skip ?_ | (refine W_region [] (by rfl) fun K hK => ?_; simp only [go_sem, Nat.reduceEqDiff, Nat.reduceLT, Nat.reduceAdd, Nat.reduceLeDiff, Nat.reduceMul, Nat.reduceSub, Int.reduceLE, Int.reduceLT, Int.reduceToNat, Int.reducePow, Int.reduceEq]; refine WRun.done _ _ (hK _ _ ?_); clear hK)))
      have hvars : ∀ {x : Ty}, x ∈ l → ∀ w, w ∈ x.vars → w ∈ (Ty.app f l).vars := fun hx w hw => Ty.mem_varsL.2 ⟨_, hx, hw⟩
      have hmv : n ∈ ((Ty.app f l).sub m).vars ↔ ∃ x ∈ l, n ∈ (x.sub m).vars := by
        rw [sub_app, Ty.vars, Ty.mem_varsL]
        constructor
        · rintro ⟨x, hx, h⟩
          obtain ⟨y, hy, rfl⟩ := List.mem_map.1 hx
          exact ⟨y, hy, h⟩
        · rintro ⟨y, hy, h⟩
          exact ⟨_, List.mem_map_of_mem hy, h⟩
      refine W_loop (α := Nat) (fun q F' M' => q ≤ l.length ∧ look F' 0 = .map i ∧ look F' 1 = V.int (n : Int) ∧ look F' 3 = .map j ∧ look F' 49 = .list .dull (encL l) ∧ look F' 50 = V.int l.length ∧ look F' 51 = V.int q ∧ (∀ x ∈ l.take q, n ∉ (x.sub m).vars) ∧
        ∃ es2 S2, Ext (M.set j (.map es2)) M' ∧ Seen es2 S2 ∧ ∀ w, S2 w = true → S w = true ∨ n ∉ (m w).vars) (fun q => l.length - q) 0 ⟨Nat.zero_le _, ?_, ?_, ?_, ?_, ?_, ?_, by simp, es1, S, by rw [Ext.same hj]; exact Ext.refl M, hS, fun w hw => .inl hw⟩ ?_
      · simp only [go_sem, Nat.reduceEqDiff, Nat.reduceLT, Nat.reduceAdd, Nat.reduceLeDiff, Nat.reduceMul, Nat.reduceSub, Int.reduceLE, Int.reduceLT, Int.reduceToNat, Int.reducePow, Int.reduceEq]
      · simp only [go_sem, Nat.reduceEqDiff, Nat.reduceLT, Nat.reduceAdd, Nat.reduceLeDiff, Nat.reduceMul, Nat.reduceSub, Int.reduceLE, Int.reduceLT, Int.reduceToNat, Int.reducePow, Int.reduceEq]
      · simp only [go_sem, Nat.reduceEqDiff, Nat.reduceLT, Nat.reduceAdd, Nat.reduceLeDiff, Nat.reduceMul, Nat.reduceSub, Int.reduceLE, Int.reduceLT, Int.reduceToNat, Int.reducePow, Int.reduceEq]
      · simp only [go_sem, Nat.reduceEqDiff, Nat.reduceLT, Nat.reduceAdd, Nat.reduceLeDiff, Nat.reduceMul, Nat.reduceSub, Int.reduceLE, Int.reduceLT, Int.reduceToNat, Int.reducePow, Int.reduceEq]
      · simp only [go_sem, Nat.reduceEqDiff, Nat.reduceLT, Nat.reduceAdd, Nat.reduceLeDiff, Nat.reduceMul, Nat.reduceSub, Int.reduceLE, Int.reduceLT, Int.reduceToNat, Int.reducePow, Int.reduceEq]
      · simp only [go_sem, Nat.reduceEqDiff, Nat.reduceLT, Nat.reduceAdd, Nat.reduceLeDiff, Nat.reduceMul, Nat.reduceSub, Int.reduceLE, Int.reduceLT, Int.reduceToNat, Int.reducePow, Int.reduceEq]
      rintro q F' M' ⟨hq, f0, f1, f3, f49, f50, f51, hno, es2, S2, hx, c1, c2⟩
      by_cases hlt : q < l.length
      · have hlt' : (q : Int) < (l.length : Int) := by omega
        have hw : IntKind.i64.wrap ((q : Int) + 1) = ((q + 1 : Nat) : Int) := by rw [wrapI _ (by omega) (by omega)]; omega
        obtain ⟨x, hxl⟩ : ∃ x, l[q]? = some x := ⟨l[q], by simp [hlt]⟩
        have hxm : x ∈ l := List.mem_of_getElem? hxl
        have hat := encL_at hxl
        have hjl' : j < (M.set j (AObj.map es2)).length := by simpa using hjl
        have hi2 : M'[i]? = some (.map es) := by rw [hx.2 i (by simpa using hil), List.getElem?_set_ne (by omega)]; exact hi
        have hj2 : M'[j]? = some (.map es2) := by rw [hx.2 j hjl', List.getElem?_set_self hjl]
        have hsx : x.size < N := by have := app_size (f := f) hxm; omega
        (repeat (first | refine W_seq ?_ | refine W_block ?_ | refine W_blk ?_ | refine W_skip ?_ | (refine W_region [] (by rfl) fun K hK => ?_; simp only [go_sem, Nat.reduceEqDiff, Nat.reduceLT, Nat.reduceAdd, Nat.reduceLeDiff, Nat.reduceMul, Nat.reduceSub, Int.reduceLE, Int.reduceLT, Int.reduceToNat, Int.reducePow, Int.reduceEq, f50, f51, hlt']; refine WRun.done _ _ (hK _ _ ?_); clear hK)))
        refine W_cond_true (by simp only [go_sem, Nat.reduceEqDiff, Nat.reduceLT, Nat.reduceAdd, Nat.reduceLeDiff, Nat.reduceMul, Nat.reduceSub, Int.reduceLE, Int.reduceLT, Int.reduceToNat, Int.reducePow, Int.reduceEq]) ?_
        (repeat (first | refine W_seq ?_ | refine W_block ?_ | refine W_blk ?_ | refine W_skip ?_))
        (refine W_region [] (by rfl) fun K hK => ?_; simp only [go_sem, Nat.reduceEqDiff, Nat.reduceLT, Nat.reduceAdd, Nat.reduceLeDiff, Nat.reduceMul, Nat.reduceSub, Int.reduceLE, Int.reduceLT, Int.reduceToNat, Int.reducePow, Int.reduceEq, f49, f51, hat, Int.natCast_nonneg, Int.toNat_natCast])
        (refine WRun.done _ _ (hK _ _ ?_); clear hK)
        (repeat (first | refine W_seq ?_ | refine W_block ?_ | refine W_blk ?_ | refine W_skip ?_))
        (refine W_region [] (by rfl) fun K hK => ?_; simp only [go_sem, Nat.reduceEqDiff, Nat.reduceLT, Nat.reduceAdd, Nat.reduceLeDiff, Nat.reduceMul, Nat.reduceSub, Int.reduceLE, Int.reduceLT, Int.reduceToNat, Int.reducePow, Int.reduceEq, f0, f1, f3])
        refine ACalls.use (occurs_ok hs hm n hn i j hij Kr x.size x (Nat.le_refl _) (fun w hw => hKr w (hvars hxm w hw)) (ht.2 x hxm) _ (at_app hi2) es2 S2 c1 (at_app hj2) ?_) (by simp only [go_sem, Nat.reduceEqDiff, Nat.reduceLT, Nat.reduceAdd, Nat.reduceLeDiff, Nat.reduceMul, Nat.reduceSub, Int.reduceLE, Int.reduceLT, Int.reduceToNat, Int.reducePow, Int.reduceEq, enc_eq]) ?_
        · intro w hw
          rcases c2 w hw with h | h
          · rcases hp w h with h5 | h5
            · exact .inl h5
            · exact .inr fun y hy => h5 y (hvars hxm y hy)
          · exact .inl h
        rintro r' M2 ⟨es4, S4, rfl, b1, rfl, b2⟩
        simp only [go_sem, Nat.reduceEqDiff, Nat.reduceLT, Nat.reduceAdd, Nat.reduceLeDiff, Nat.reduceMul, Nat.reduceSub, Int.reduceLE, Int.reduceLT, Int.reduceToNat, Int.reducePow, Int.reduceEq]
        (refine WRun.done _ _ (hK _ _ ?_); clear hK)
        have hx4 := (hx.app [AObj.cells [V.int (hd x), V.str (nm x), V.list Tag.dull (encL (ar x))]]).upd (y := .map es4) hjl
        by_cases hin : n ∈ (x.sub m).vars
        · refine W_cond_true (by simp only [go_sem, Nat.reduceEqDiff, Nat.reduceLT, Nat.reduceAdd, Nat.reduceLeDiff, Nat.reduceMul, Nat.reduceSub, Int.reduceLE, Int.reduceLT, Int.reduceToNat, Int.reducePow, Int.reduceEq, hin]) ?_
          (repeat (first | refine W_seq ?_ | refine W_block ?_ | refine W_blk ?_ | refine W_skip ?_ | (refine W_region [] (by rfl) fun K hK => ?_; simp only [go_sem, Nat.reduceEqDiff, Nat.reduceLT, Nat.reduceAdd, Nat.reduceLeDiff, Nat.reduceMul, Nat.reduceSub, Int.reduceLE, Int.reduceLT, Int.reduceToNat, Int.reducePow, Int.reduceEq]; refine WRun.done _ _ (hK _ _ ?_); clear hK)))
          refine W_ret ?_
          simp only [go_sem, Nat.reduceEqDiff, Nat.reduceLT, Nat.reduceAdd, Nat.reduceLeDiff, Nat.reduceMul, Nat.reduceSub, Int.reduceLE, Int.reduceLT, Int.reduceToNat, Int.reducePow, Int.reduceEq]
          have := hmv.2 ⟨x, hxm, hin⟩
          exact ⟨es4, S4, hx4, b1, by simp [this], fun h => absurd this h⟩
        · refine W_cond_false (by simp only [go_sem, Nat.reduceEqDiff, Nat.reduceLT, Nat.reduceAdd, Nat.reduceLeDiff, Nat.reduceMul, Nat.reduceSub, Int.reduceLE, Int.reduceLT, Int.reduceToNat, Int.reducePow, Int.reduceEq, hin]) ?_
          (repeat (first | refine W_seq ?_ | refine W_block ?_ | refine W_blk ?_ | refine W_skip ?_ | (refine W_region [] (by rfl) fun K hK => ?_; simp only [go_sem, Nat.reduceEqDiff, Nat.reduceLT, Nat.reduceAdd, Nat.reduceLeDiff, Nat.reduceMul, Nat.reduceSub, Int.reduceLE, Int.reduceLT, Int.reduceToNat, Int.reducePow, Int.reduceEq, f51, hw]; refine WRun.done _ _ (hK _ _ ?_); clear hK)))
          refine W_stop ⟨q + 1, ⟨hlt, ?_, ?_, ?_, ?_, ?_, ?_, ?_, es4, S4, hx4, b1, ?_⟩, by omega⟩
          · simp only [go_sem, Nat.reduceEqDiff, Nat.reduceLT, Nat.reduceAdd, Nat.reduceLeDiff, Nat.reduceMul, Nat.reduceSub, Int.reduceLE, Int.reduceLT, Int.reduceToNat, Int.reducePow, Int.reduceEq, f0]
          · simp only [go_sem, Nat.reduceEqDiff, Nat.reduceLT, Nat.reduceAdd, Nat.reduceLeDiff, Nat.reduceMul, Nat.reduceSub, Int.reduceLE, Int.reduceLT, Int.reduceToNat, Int.reducePow, Int.reduceEq, f1]
          · simp only [go_sem, Nat.reduceEqDiff, Nat.reduceLT, Nat.reduceAdd, Nat.reduceLeDiff, Nat.reduceMul, Nat.reduceSub, Int.reduceLE, Int.reduceLT, Int.reduceToNat, Int.reducePow, Int.reduceEq, f3]
          · simp only [go_sem, Nat.reduceEqDiff, Nat.reduceLT, Nat.reduceAdd, Nat.reduceLeDiff, Nat.reduceMul, Nat.reduceSub, Int.reduceLE, Int.reduceLT, Int.reduceToNat, Int.reducePow, Int.reduceEq, f49]
          · simp only [go_sem, Nat.reduceEqDiff, Nat.reduceLT, Nat.reduceAdd, Nat.reduceLeDiff, Nat.reduceMul, Nat.reduceSub, Int.reduceLE, Int.reduceLT, Int.reduceToNat, Int.reducePow, Int.reduceEq, f50]
          · simp only [go_sem, Nat.reduceEqDiff, Nat.reduceLT, Nat.reduceAdd, Nat.reduceLeDiff, Nat.reduceMul, Nat.reduceSub, Int.reduceLE, Int.reduceLT, Int.reduceToNat, Int.reducePow, Int.reduceEq]
          · intro y hy
            rw [List.take_add_one, hxl] at hy
            rcases List.mem_append.1 hy with hy | hy
            · exact hno y hy
            · simp at hy; subst hy; exact hin
          · intro w hw
            rcases b2 hin w hw with h5 | h5
            · exact c2 w h5
            · exact .inr h5
      · have hii : q = l.length := by omega
        subst hii
        (repeat (first | refine W_seq ?_ | refine W_block ?_ | refine W_blk ?_ | refine W_skip ?_ | (refine W_region [] (by rfl) fun K hK => ?_; simp only [go_sem, Nat.reduceEqDiff, Nat.reduceLT, Nat.reduceAdd, Nat.reduceLeDiff, Nat.reduceMul, Nat.reduceSub, Int.reduceLE, Int.reduceLT, Int.reduceToNat, Int.reducePow, Int.reduceEq, f50, f51, Int.lt_irrefl]; refine WRun.done _ _ (hK _ _ ?_); clear hK)))
        refine W_cond_false (by simp only [go_sem, Nat.reduceEqDiff, Nat.reduceLT, Nat.reduceAdd, Nat.reduceLeDiff, Nat.reduceMul, Nat.reduceSub, Int.reduceLE, Int.reduceLT, Int.reduceToNat, Int.reducePow, Int.reduceEq]) ?_
        refine W_exit (Qof_code (Qof_stop (Qof_blk_same ?_)))
        (repeat (first | refine W_seq ?_ | refine W_block ?_ | refine W_blk ?_ | refine W_skip ?_ | (refine W_region [] (by rfl) fun K hK => ?_; simp only [go_sem, Nat.reduceEqDiff, Nat.reduceLT, Nat.reduceAdd, Nat.reduceLeDiff, Nat.reduceMul, Nat.reduceSub, Int.reduceLE, Int.reduceLT, Int.reduceToNat, Int.reducePow, Int.reduceEq]; refine WRun.done _ _ (hK _ _ ?_); clear hK)))
        refine W_ret ?_
        simp only [go_sem, Nat.reduceEqDiff, Nat.reduceLT, Nat.reduceAdd, Nat.reduceLeDiff, Nat.reduceMul, Nat.reduceSub, Int.reduceLE, Int.reduceLT, Int.reduceToNat, Int.reducePow, Int.reduceEq]
        rw [List.take_length] at hno
        have : n ∉ ((Ty.app f l).sub m).vars := fun hc => by
          obtain ⟨x, h1, h2⟩ := hmv.1 hc
          exact hno x h1 h2
        exact ⟨es2, S2, hx, c1, by simp [this], fun _ => c2⟩
  · rintro v M' ⟨es2, S2, hx, h1, h2, h3⟩
    obtain ⟨L, rfl⟩ := hx.out
    refine ⟨v, M.set j (.map es2), L, rfl, by simp, .inl rfl, by rw [h2]; rfl, fun o ho => ?_, es2, S2, rfl, h1, h2, h3⟩
    rcases List.mem_or_eq_of_mem_set ho with h | h
    · exact .inl h
    · exact .inr (by rw [h]; exact map_ids h1.closed _)
termination_by (Kr, N)
end Go.Ax

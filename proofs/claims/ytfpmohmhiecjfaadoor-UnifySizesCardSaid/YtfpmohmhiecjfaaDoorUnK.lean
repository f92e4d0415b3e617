/- Making two types one, where the first is a variable. Conditions: none. -/
import Derived.Test.YtfpmohmhiecjfaaDoorUnJ
set_option linter.unusedSimpArgs false
set_option linter.unusedVariables false
namespace Go.Ax
open Go.Proofs Go.Uni

/-- What comes of making two types one: it did, or not. -/
def POut (res : Option (Nat → Ty)) (c left : Nat) (v : V) (es' : List (Value × V)) (x : Int) : Prop :=
  (v = V.int 0 ∧ c ≤ left ∧ x = ((left - c : Nat) : Int) ∧ ∃ m' s' r', res = some m' ∧ SMap es' s' ∧ Sbs s' m' r') ∨ (v = V.int 5 ∧ (res = none ∨ left < c) ∧ ∃ s', SMap es' s')
def PairX (i j : Nat) (M : AMem) (res : Option (Nat → Ty)) (c left : Nat) (v : V) (M' : AMem) : Prop :=
  ∃ es' x, Ext ((M.set i (.map es')).set j (.cells [V.int x])) M' ∧ POut res c left v es' x
def PairR (i j : Nat) (M : AMem) (res : Option (Nat → Ty)) (c left : Nat) (v : V) (M' : AMem) : Prop :=
  ∃ es' x, M' = (M.set i (.map es')).set j (.cells [V.int x]) ∧ POut res c left v es' x

theorem cells_ids (x : Int) (n : Nat) : (AObj.cells [V.int x]).ids n = true := rfl
theorem pair_shrink {i j : Nat} {M : AMem} {res : Option (Nat → Ty)} {c left : Nat} {args : List V} (h : ACalls Tryd.prog 31 args M (PairX i j M res c left)) : ACalls Tryd.prog 31 args M (PairR i j M res c left) := by
  refine ACalls.shrink h ?_
  rintro v M' ⟨es', x, hx, ho⟩
  obtain ⟨L, rfl⟩ := hx.out
  have hc : ∀ p ∈ es', p.2.closed = true := by
    rcases ho with ⟨_, _, _, m', s', r', _, h, _⟩ | ⟨_, _, s', h⟩ <;> exact h.closed
  refine ⟨v, _, L, rfl, by simp, .inl rfl, ?_, fun o ho => ?_, es', x, rfl, ho⟩
  · rcases ho with ⟨h, _⟩ | ⟨h, _⟩ <;> rw [h] <;> rfl
  · rcases List.mem_or_eq_of_mem_set ho with h | h
    · rcases List.mem_or_eq_of_mem_set h with h | h
      · exact .inl h
      · exact .inr (by rw [h]; exact map_ids hc _)
    · exact .inr (by rw [h]; rfl)
theorem ext_one {M : AMem} {i j : Nat} (hi : i < M.length) {es : List (Value × V)} (h : M[i]? = some (.map es)) (L : AMem) (x : Int) : Ext ((M.set i (.map es)).set j (.cells [V.int x])) ((M ++ L).set j (.cells [V.int x])) := by
  rw [Ext.same h]
  refine ⟨by simp, fun k hk => ?_⟩
  rw [List.length_set] at hk
  by_cases e : k = j
  · subst e
    rw [List.getElem?_set_self (by simp; omega), List.getElem?_set_self hk]
  · rw [List.getElem?_set_ne (by omega), List.getElem?_set_ne (by omega), List.getElem?_append_left hk]

set_option maxHeartbeats 8000000 in
theorem pair_var {es : List (Value × V)} {s : Nat → Option Ty} {m : Nat → Ty} {r : Nat → Nat} (hs : SMap es s) (hm : Sbs s m r) (a b : Ty) (ha : Ar a) (hb : Ar b) (i j : Nat) (hij : i ≠ j) (M : AMem) (hi : M[i]? = some (.map es)) (left : Nat) (hl : left ≤ 4611686018427387904) (hj : M[j]? = some (.cells [V.int left]))
    (res : Option (Nat → Ty)) (c : Nat) (hU : Un m a b res c) (n : Nat) (hn : a.sub m = .var n) :
    ACalls Tryd.prog 31 [.map i, enc a, enc b, .ptr j 0] M (PairX i j M res c left) := by
  have hil := (List.getElem?_eq_some_iff.1 hi).1
  have hjl := (List.getElem?_eq_some_iff.1 hj).1
  have hc1 : c = 1 := by
    cases hU <;> first | rfl | (rename_i h _ _; rw [hn] at h; cases h) | (rename_i h; rw [hn] at h; cases h) | (simp_all)
  refine pair_pre hs hm a b ha hb i j hij M hi left hl hj _ (fun hz a' b' => ?_) fun hpos a' b' ea hAa hHa eb hAb hHb F' f0 f3 f5 f6 => ?_
  · refine ⟨es, -1, ?_, .inr ⟨rfl, .inr (by omega), s, hs⟩⟩
    rw [List.append_assoc]
    exact ext_one hil hi _ _
  obtain ⟨n', rfl, hsn⟩ : ∃ n', a' = .var n' ∧ s n' = none := by
    rcases hHa with h | ⟨f, l, rfl⟩
    · exact h
    · rw [sub_app, hn] at ea; cases ea
  have hnn : n' = n := by
    have : (Ty.var n').sub m = .var n := ea.trans hn
    rw [Ty.sub, hm.un n' hsn] at this
    injection this
  subst hnn
  have hA : ((M ++ [AObj.cells (tcells (.var n'))] ++ [AObj.cells (tcells b')]).set j (.cells [V.int ((left - 1 : Nat) : Int)]))[M.length]? = some (.cells (tcells (.var n'))) := by rw [List.getElem?_set_ne (by omega)]; exact at_app (at_snoc rfl)
  have hB : ((M ++ [AObj.cells (tcells (.var n'))] ++ [AObj.cells (tcells b')]).set j (.cells [V.int ((left - 1 : Nat) : Int)]))[M.length + 1]? = some (.cells (tcells b')) := by rw [List.getElem?_set_ne (by omega)]; exact at_snoc (by simp)
  have hi1 : ((M ++ [AObj.cells (tcells (.var n'))] ++ [AObj.cells (tcells b')]).set j (.cells [V.int ((left - 1 : Nat) : Int)]))[i]? = some (.map es) := by rw [List.getElem?_set_ne (by omega)]; exact at_app (at_app hi)
  have hx : Ext ((M.set i (.map es)).set j (.cells [V.int ((left - 1 : Nat) : Int)])) ((M ++ [AObj.cells (tcells (.var n'))] ++ [AObj.cells (tcells b')]).set j (.cells [V.int ((left - 1 : Nat) : Int)])) := by
    rw [List.append_assoc]
    exact ext_one hil hi _ _
  generalize (M ++ [AObj.cells (tcells (.var n'))] ++ [AObj.cells (tcells b')]).set j (.cells [V.int ((left - 1 : Nat) : Int)]) = M2 at hA hB hi1 hx ⊢
  have h0 : (0 : Int) ≤ (n' : Int) := Int.natCast_nonneg n'
  have hres0 : b.sub m = .var n' → res = some m := fun e => by
    cases hU with
    | same _ _ _ k h1 h2 => rfl
    | bindL _ _ _ k h1 h2 h3 => rw [hn] at h1; injection h1 with h1; subst h1; exact absurd e h2
    | occL _ _ _ k h1 h2 h3 => rw [hn] at h1; injection h1 with h1; subst h1; exact absurd e h2
    | bindR _ _ _ f l k h1 h2 h3 => rw [hn] at h1; cases h1
    | occR _ _ _ f l k h1 h2 h3 => rw [hn] at h1; cases h1
    | clash _ _ _ f g l k h1 h2 h3 => rw [hn] at h1; cases h1
    | app _ _ _ f l k _ c h1 h2 h3 h4 => rw [hn] at h1; cases h1
  have hres : (b.sub m ≠ .var n' → n' ∈ (b.sub m).vars → res = none) ∧ (b.sub m ≠ .var n' → n' ∉ (b.sub m).vars → res = some (bind m n' (b.sub m))) := by
    cases hU with
    | same _ _ _ k h1 h2 => rw [hn] at h1; injection h1 with h1; subst h1; exact ⟨fun h => absurd h2 h, fun h => absurd h2 h⟩
    | bindL _ _ _ k h1 h2 h3 => rw [hn] at h1; injection h1 with h1; subst h1; exact ⟨fun _ h => absurd h h3, fun _ _ => rfl⟩
    | occL _ _ _ k h1 h2 h3 => rw [hn] at h1; injection h1 with h1; subst h1; exact ⟨fun _ _ => rfl, fun _ h => absurd h3 h⟩
    | bindR _ _ _ f l k h1 h2 h3 => rw [hn] at h1; cases h1
    | occR _ _ _ f l k h1 h2 h3 => rw [hn] at h1; cases h1
    | clash _ _ _ f g l k h1 h2 h3 => rw [hn] at h1; cases h1
    | app _ _ _ f l k _ c h1 h2 h3 h4 => rw [hn] at h1; cases h1
  have tail : ∀ F'', look F'' 0 = .map i → look F'' 3 = .ptr j 0 → look F'' 5 = .ptr M.length 0 → look F'' 6 = .ptr (M.length + 1) 0 → b.sub m ≠ .var n' →
      W Tryd.prog 108 (RetA Tryd.prog [ResultVar.tmp 8] (PairX i j M res c left)) [.code (part [1,1,1,0,1,1,1] body31), .blk 0, .code (part [1,1,1,1] body31)] F'' M2 := by
    intro F'' f0 f3 f5 f6 hne
    (repeat (first | refine W_seq ?_ | refine W_block ?_ | refine W_blk ?_ | refine W_skip ?_ | (refine W_region [] (by rfl) fun K hK => ?_; simp only [go_sem, Nat.reduceEqDiff, Nat.reduceLT, Nat.reduceAdd, Nat.reduceLeDiff, Nat.reduceMul, Nat.reduceSub, Int.reduceLE, Int.reduceLT, Int.reduceToNat, Int.reducePow, Int.reduceEq, f5, hA, h0]; refine WRun.done _ _ (hK _ _ ?_); clear hK)))
    refine W_cond_true (by simp only [go_sem, Nat.reduceEqDiff, Nat.reduceLT, Nat.reduceAdd, Nat.reduceLeDiff, Nat.reduceMul, Nat.reduceSub, Int.reduceLE, Int.reduceLT, Int.reduceToNat, Int.reducePow, Int.reduceEq]) ?_
    (repeat (first | refine W_seq ?_ | refine W_block ?_ | refine W_blk ?_ | refine W_skip ?_))
    (refine W_region [] (by rfl) fun K hK => ?_; simp only [go_sem, Nat.reduceEqDiff, Nat.reduceLT, Nat.reduceAdd, Nat.reduceLeDiff, Nat.reduceMul, Nat.reduceSub, Int.reduceLE, Int.reduceLT, Int.reduceToNat, Int.reducePow, Int.reduceEq, f0, f5, f6, hA, hB])
    have hj2 : (M2 ++ [AObj.map []])[M2.length]? = some (.map []) := at_snoc rfl
    have hilM : i < M2.length := (List.getElem?_eq_some_iff.1 hi1).1
    obtain ⟨Kr, hKr⟩ := max_bound r b'.vars
    refine ACalls.use (occurs_ok hs hm n' hsn i M2.length (by omega) Kr b'.size b' (Nat.le_refl _) hKr hAb _ (at_app hi1) [] _ Seen.start hj2 (fun w hw => (by cases hw))) (by simp only [go_sem, Nat.reduceEqDiff, Nat.reduceLT, Nat.reduceAdd, Nat.reduceLeDiff, Nat.reduceMul, Nat.reduceSub, Int.reduceLE, Int.reduceLT, Int.reduceToNat, Int.reducePow, Int.reduceEq, enc_eq]) ?_
    rintro r' M3 ⟨es4, S4, rfl, b1, rfl, b2⟩
    simp only [go_sem, Nat.reduceEqDiff, Nat.reduceLT, Nat.reduceAdd, Nat.reduceLeDiff, Nat.reduceMul, Nat.reduceSub, Int.reduceLE, Int.reduceLT, Int.reduceToNat, Int.reducePow, Int.reduceEq]
    (refine WRun.done _ _ (hK _ _ ?_); clear hK)
    rw [eb] at b2 ⊢
    have hx4 : Ext ((M.set i (.map es)).set j (.cells [V.int ((left - 1 : Nat) : Int)])) (M2 ++ [AObj.map es4]) := hx.app _
    by_cases hin : n' ∈ (b.sub m).vars
    · refine W_cond_true (by simp only [go_sem, Nat.reduceEqDiff, Nat.reduceLT, Nat.reduceAdd, Nat.reduceLeDiff, Nat.reduceMul, Nat.reduceSub, Int.reduceLE, Int.reduceLT, Int.reduceToNat, Int.reducePow, Int.reduceEq, hin]) ?_
      (repeat (first | refine W_seq ?_ | refine W_block ?_ | refine W_blk ?_ | refine W_skip ?_ | (refine W_region [] (by rfl) fun K hK => ?_; simp only [go_sem, Nat.reduceEqDiff, Nat.reduceLT, Nat.reduceAdd, Nat.reduceLeDiff, Nat.reduceMul, Nat.reduceSub, Int.reduceLE, Int.reduceLT, Int.reduceToNat, Int.reducePow, Int.reduceEq]; refine WRun.done _ _ (hK _ _ ?_); clear hK)))
      refine W_ret ?_
      simp only [go_sem, Nat.reduceEqDiff, Nat.reduceLT, Nat.reduceAdd, Nat.reduceLeDiff, Nat.reduceMul, Nat.reduceSub, Int.reduceLE, Int.reduceLT, Int.reduceToNat, Int.reducePow, Int.reduceEq]
      exact ⟨es, _, hx4, .inr ⟨rfl, .inl (hres.1 hne hin), s, hs⟩⟩
    · refine W_cond_false (by simp only [go_sem, Nat.reduceEqDiff, Nat.reduceLT, Nat.reduceAdd, Nat.reduceLeDiff, Nat.reduceMul, Nat.reduceSub, Int.reduceLE, Int.reduceLT, Int.reduceToNat, Int.reducePow, Int.reduceEq, hin]) ?_
      obtain ⟨es3, p1, p2⟩ := hs.put n' hAb
      have hA4 : (M2 ++ [AObj.map es4])[M.length]? = some (.cells (tcells (.var n'))) := at_app hA
      have hB4 : (M2 ++ [AObj.map es4])[M.length + 1]? = some (.cells (tcells b')) := at_app hB
      have hi4 : (M2 ++ [AObj.map es4])[i]? = some (.map es) := at_app hi1
      rw [enc_eq] at p1
      (repeat (first | refine W_seq ?_ | refine W_block ?_ | refine W_blk ?_ | refine W_skip ?_ | (refine W_region [] (by rfl) fun K hK => ?_; simp only [go_sem, Nat.reduceEqDiff, Nat.reduceLT, Nat.reduceAdd, Nat.reduceLeDiff, Nat.reduceMul, Nat.reduceSub, Int.reduceLE, Int.reduceLT, Int.reduceToNat, Int.reducePow, Int.reduceEq, f0, f5, f6, hA4, hB4, hi4, p1]; refine WRun.done _ _ (hK _ _ ?_); clear hK)))
      refine W_ret ?_
      simp only [go_sem, Nat.reduceEqDiff, Nat.reduceLT, Nat.reduceAdd, Nat.reduceLeDiff, Nat.reduceMul, Nat.reduceSub, Int.reduceLE, Int.reduceLT, Int.reduceToNat, Int.reducePow, Int.reduceEq]
      obtain ⟨r', hb'⟩ := hm.bind hsn (b := b') (by rw [eb]; exact hin)
      rw [eb] at hb'
      refine ⟨es3, ((left - 1 : Nat) : Int), ?_, .inl ⟨rfl, by omega, by rw [hc1], _, _, r', hres.2 hne hin, p2, hb'⟩⟩
      rw [List.set_comm _ _ hij] at hx4 ⊢
      exact hx4.upd (by simpa using hil)
  rcases hHb with ⟨k, rfl, hsk⟩ | ⟨g, lb, rfl⟩
  · have h0k : (0 : Int) ≤ (k : Int) := Int.natCast_nonneg k
    have ebk : b.sub m = .var k := by rw [← eb, Ty.sub, hm.un k hsk]
    by_cases hnk : n' = k
    · subst hnk
      (repeat (first | refine W_seq ?_ | refine W_block ?_ | refine W_blk ?_ | refine W_skip ?_ | (refine W_region [] (by rfl) fun K hK => ?_; simp only [go_sem, Nat.reduceEqDiff, Nat.reduceLT, Nat.reduceAdd, Nat.reduceLeDiff, Nat.reduceMul, Nat.reduceSub, Int.reduceLE, Int.reduceLT, Int.reduceToNat, Int.reducePow, Int.reduceEq, f0, f3, f5, f6, hA, hB, h0, h0k]; refine WRun.done _ _ (hK _ _ ?_); clear hK)))
      refine W_cond_true (by simp only [go_sem, Nat.reduceEqDiff, Nat.reduceLT, Nat.reduceAdd, Nat.reduceLeDiff, Nat.reduceMul, Nat.reduceSub, Int.reduceLE, Int.reduceLT, Int.reduceToNat, Int.reducePow, Int.reduceEq]) ?_
      (repeat (first | refine W_seq ?_ | refine W_block ?_ | refine W_blk ?_ | refine W_skip ?_ | (refine W_region [] (by rfl) fun K hK => ?_; simp only [go_sem, Nat.reduceEqDiff, Nat.reduceLT, Nat.reduceAdd, Nat.reduceLeDiff, Nat.reduceMul, Nat.reduceSub, Int.reduceLE, Int.reduceLT, Int.reduceToNat, Int.reducePow, Int.reduceEq]; refine WRun.done _ _ (hK _ _ ?_); clear hK)))
      refine W_ret ?_
      simp only [go_sem, Nat.reduceEqDiff, Nat.reduceLT, Nat.reduceAdd, Nat.reduceLeDiff, Nat.reduceMul, Nat.reduceSub, Int.reduceLE, Int.reduceLT, Int.reduceToNat, Int.reducePow, Int.reduceEq]
      exact ⟨es, _, hx, .inl ⟨rfl, by omega, by rw [hc1], m, s, r, hres0 ebk, hs, hm⟩⟩
    · have hnk' : ¬ ((n' : Int) = (k : Int)) := by omega
      (repeat (first | refine W_seq ?_ | refine W_block ?_ | refine W_blk ?_ | refine W_skip ?_ | (refine W_region [] (by rfl) fun K hK => ?_; simp only [go_sem, Nat.reduceEqDiff, Nat.reduceLT, Nat.reduceAdd, Nat.reduceLeDiff, Nat.reduceMul, Nat.reduceSub, Int.reduceLE, Int.reduceLT, Int.reduceToNat, Int.reducePow, Int.reduceEq, f0, f3, f5, f6, hA, hB, h0, h0k, hnk']; refine WRun.done _ _ (hK _ _ ?_); clear hK)))
      refine W_cond_false (by simp only [go_sem, Nat.reduceEqDiff, Nat.reduceLT, Nat.reduceAdd, Nat.reduceLeDiff, Nat.reduceMul, Nat.reduceSub, Int.reduceLE, Int.reduceLT, Int.reduceToNat, Int.reducePow, Int.reduceEq, hnk']) ?_
      refine tail _ ?_ ?_ ?_ ?_ (by rw [ebk]; intro e; injection e with e; exact hnk e.symm)
      · simp only [go_sem, Nat.reduceEqDiff, Nat.reduceLT, Nat.reduceAdd, Nat.reduceLeDiff, Nat.reduceMul, Nat.reduceSub, Int.reduceLE, Int.reduceLT, Int.reduceToNat, Int.reducePow, Int.reduceEq, f0]
      · simp only [go_sem, Nat.reduceEqDiff, Nat.reduceLT, Nat.reduceAdd, Nat.reduceLeDiff, Nat.reduceMul, Nat.reduceSub, Int.reduceLE, Int.reduceLT, Int.reduceToNat, Int.reducePow, Int.reduceEq, f3]
      · simp only [go_sem, Nat.reduceEqDiff, Nat.reduceLT, Nat.reduceAdd, Nat.reduceLeDiff, Nat.reduceMul, Nat.reduceSub, Int.reduceLE, Int.reduceLT, Int.reduceToNat, Int.reducePow, Int.reduceEq, f5]
      · simp only [go_sem, Nat.reduceEqDiff, Nat.reduceLT, Nat.reduceAdd, Nat.reduceLeDiff, Nat.reduceMul, Nat.reduceSub, Int.reduceLE, Int.reduceLT, Int.reduceToNat, Int.reducePow, Int.reduceEq, f6]
  · (repeat (first | refine W_seq ?_ | refine W_block ?_ | refine W_blk ?_ | refine W_skip ?_ | (refine W_region [] (by rfl) fun K hK => ?_; simp only [go_sem, Nat.reduceEqDiff, Nat.reduceLT, Nat.reduceAdd, Nat.reduceLeDiff, Nat.reduceMul, Nat.reduceSub, Int.reduceLE, Int.reduceLT, Int.reduceToNat, Int.reducePow, Int.reduceEq, f0, f3, f5, f6, hA, hB, h0]; refine WRun.done _ _ (hK _ _ ?_); clear hK)))
    refine W_cond_false (by simp only [go_sem, Nat.reduceEqDiff, Nat.reduceLT, Nat.reduceAdd, Nat.reduceLeDiff, Nat.reduceMul, Nat.reduceSub, Int.reduceLE, Int.reduceLT, Int.reduceToNat, Int.reducePow, Int.reduceEq]) ?_
    refine tail _ ?_ ?_ ?_ ?_ (by rw [← eb, sub_app]; intro e; cases e)
    · simp only [go_sem, Nat.reduceEqDiff, Nat.reduceLT, Nat.reduceAdd, Nat.reduceLeDiff, Nat.reduceMul, Nat.reduceSub, Int.reduceLE, Int.reduceLT, Int.reduceToNat, Int.reducePow, Int.reduceEq, f0]
    · simp only [go_sem, Nat.reduceEqDiff, Nat.reduceLT, Nat.reduceAdd, Nat.reduceLeDiff, Nat.reduceMul, Nat.reduceSub, Int.reduceLE, Int.reduceLT, Int.reduceToNat, Int.reducePow, Int.reduceEq, f3]
    · simp only [go_sem, Nat.reduceEqDiff, Nat.reduceLT, Nat.reduceAdd, Nat.reduceLeDiff, Nat.reduceMul, Nat.reduceSub, Int.reduceLE, Int.reduceLT, Int.reduceToNat, Int.reducePow, Int.reduceEq, f5]
    · simp only [go_sem, Nat.reduceEqDiff, Nat.reduceLT, Nat.reduceAdd, Nat.reduceLeDiff, Nat.reduceMul, Nat.reduceSub, Int.reduceLE, Int.reduceLT, Int.reduceToNat, Int.reducePow, Int.reduceEq, f6]
end Go.Ax

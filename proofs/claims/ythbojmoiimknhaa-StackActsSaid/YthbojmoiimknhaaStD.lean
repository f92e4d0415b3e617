import Derived.Test.YthbojmoiimknhaaSt9g
set_option linter.unusedSimpArgs false
set_option linter.unusedVariables false
namespace Go.Ax
open Go.Proofs

theorem seen_ok (p n : Int) (c18 c17 : Nat) (tg : Tag) (xs : List Int) (M : AMem) (h18 : M[c18]? = some (.cells [.list tg (xs.map V.int)])) (h17 : M[c17]? = some (.cells [V.int n])) (htg : tagOk tg M = true) (hx : xs.length ≤ 2000000)
    (hne : c18 ≠ c17) (h18d : (dropTag tg M)[c18]? = some (.cells [.list tg (xs.map V.int)])) (h17d : (dropTag tg M)[c17]? = some (.cells [V.int n])) :
    ACalls Try.prog 18 [V.int p, .ptr c18 0, .ptr c17 0] M (fun r M' => r = V.int (IntKind.i64.wrap (IntKind.i64.wrap (p.tdiv 2) + n)) ∧
      M' = (dropTag tg M).set c18 (.cells [.list (.own M.length) ((xs ++ [p]).map V.int)]) ++ [.tail]) := by
  refine acalls_enter [.tmp 4] 13 Try.func18 rfl rfl rfl (by simp) ?_
  have hl : c18 < (dropTag tg M).length := (List.getElem?_eq_some_iff.1 h18d).1
  have hl7 : c17 < (dropTag tg M).length := (List.getElem?_eq_some_iff.1 h17d).1
  have hx1 : xs.length + 1 ≤ 1073741824 := by omega
  (repeat (first | refine W_seq ?_ | refine W_block ?_ | refine W_blk ?_ | refine W_skip ?_))
  (refine W_region [] (by rfl) fun K hK => ?_; simp only [go_sem, Nat.reduceEqDiff, Nat.reduceLT, Nat.reduceAdd, Nat.reduceLeDiff, Nat.reduceMul, Nat.reduceSub, Int.reduceLE, Int.reduceLT, Int.reduceToNat, Int.reducePow, Int.reduceEq])
  (refine WRun.done _ _ (hK _ _ ?_); clear hK)
  (repeat (first | refine W_seq ?_ | refine W_block ?_ | refine W_blk ?_ | refine W_skip ?_))
  (refine W_region [] (by rfl) fun K hK => ?_; simp only [go_sem, Nat.reduceEqDiff, Nat.reduceLT, Nat.reduceAdd, Nat.reduceLeDiff, Nat.reduceMul, Nat.reduceSub, Int.reduceLE, Int.reduceLT, Int.reduceToNat, Int.reducePow, Int.reduceEq, h18, htg, hx1, at_left, set_left, hl, h18d])
  (refine WRun.done _ _ (hK _ _ ?_); clear hK)
  have h17e : ((dropTag tg M).set c18 (.cells [.list (.own M.length) (xs.map V.int ++ [V.int p])]))[c17]? = some (.cells [V.int n]) := by rw [List.getElem?_set_ne hne]; exact h17d
  (repeat (first | refine W_seq ?_ | refine W_block ?_ | refine W_blk ?_ | refine W_skip ?_))
  (refine W_region [] (by rfl) fun K hK => ?_; simp only [go_sem, Nat.reduceEqDiff, Nat.reduceLT, Nat.reduceAdd, Nat.reduceLeDiff, Nat.reduceMul, Nat.reduceSub, Int.reduceLE, Int.reduceLT, Int.reduceToNat, Int.reducePow, Int.reduceEq, at_left, hl7, h17e, ne_eq, not_false_eq_true])
  (refine WRun.done _ _ (hK _ _ ?_); clear hK)
  refine W_ret ?_
  simp only [go_sem, Nat.reduceEqDiff, Nat.reduceLT, Nat.reduceAdd, Nat.reduceLeDiff, Nat.reduceMul, Nat.reduceSub, Int.reduceLE, Int.reduceLT, Int.reduceToNat, Int.reducePow, Int.reduceEq]
  simp

/-- StackActs' function: it notes what it is asked. -/
def seenC (c18 c17 : Nat) (n : Int) : Clo (List Int) Tag 18 [.ptr c18 0, .ptr c17 0] where
  Own := fun tg j => j = c18 ∨ j = c17 ∨ tg = .own j
  Inv := fun xs tg M => M[c18]? = some (.cells [.list tg (xs.map V.int)]) ∧ M[c17]? = some (.cells [V.int n]) ∧ c18 ≠ c17 ∧ (tg = .full ∨ ∃ j, tg = .own j ∧ j ≠ c18 ∧ j ≠ c17 ∧ M[j]? = some .tail)
  stp := fun xs p => (IntKind.i64.wrap (IntKind.i64.wrap (p.tdiv 2) + n), xs ++ [p])
  cost := fun xs => xs.length
  body := by kernel_rfl
  lt := fun xs tg M j h ho => by
    obtain ⟨h1, h2, _, h4⟩ := h
    rcases ho with rfl | rfl | ho
    · exact (List.getElem?_eq_some_iff.1 h1).1
    · exact (List.getElem?_eq_some_iff.1 h2).1
    · rcases h4 with h4 | ⟨j', h4, _, _, h5⟩
      · rw [h4] at ho; cases ho
      · rw [h4] at ho; injection ho with ho; subst ho; exact (List.getElem?_eq_some_iff.1 h5).1
  stable := fun xs tg M M' h _ hk => by
    obtain ⟨h1, h2, h3, h4⟩ := h
    refine ⟨by rw [hk _ (.inl rfl)]; exact h1, by rw [hk _ (.inr (.inl rfl))]; exact h2, h3, ?_⟩
    rcases h4 with h4 | ⟨j', h4, h5, h6, h7⟩
    · exact .inl h4
    · exact .inr ⟨j', h4, h5, h6, by rw [hk _ (.inr (.inr h4))]; exact h7⟩
  pay := fun xs p => by simp
  call := fun xs tg M p h hc => by
    obtain ⟨h1, h2, h3, h4⟩ := h
    have hok : tagOk tg M = true := by
      rcases h4 with rfl | ⟨j', rfl, _, _, h7⟩
      · rfl
      · simp [tagOk, h7]
    have hd : ∀ j, tg ≠ .own j → (dropTag tg M)[j]? = M[j]? := by
      intro j hj
      rcases h4 with rfl | ⟨j', rfl, _, _, h7⟩
      · rfl
      · exact List.getElem?_set_ne (fun e => hj (by rw [e]))
    have hn18 : tg ≠ .own c18 := by
      rcases h4 with rfl | ⟨j', rfl, h5, _, _⟩
      · intro e; cases e
      · intro e; injection e with e; exact h5 e
    have hn17 : tg ≠ .own c17 := by
      rcases h4 with rfl | ⟨j', rfl, _, h5, _⟩
      · intro e; cases e
      · intro e; injection e with e; exact h5 e
    have hl18 : c18 < M.length := (List.getElem?_eq_some_iff.1 h1).1
    have hl17 : c17 < M.length := (List.getElem?_eq_some_iff.1 h2).1
    refine (seen_ok p n c18 c17 tg xs M h1 h2 hok hc h3 (by rw [hd _ hn18]; exact h1) (by rw [hd _ hn17]; exact h2)).mono fun v M' h => ?_
    obtain ⟨rfl, rfl⟩ := h
    have hlen := dropTag_len tg M
    refine ⟨rfl, .own M.length, ⟨?_, ?_, h3, .inr ⟨_, rfl, by omega, by omega, ?_⟩⟩, by simp [hlen], fun j hj hno => ?_, fun j ho => ?_⟩
    · rw [List.getElem?_append_left (by simp [hlen]; exact hl18), List.getElem?_set_self (by rw [hlen]; exact hl18)]
    · rw [List.getElem?_append_left (by simp [hlen]; exact hl17), List.getElem?_set_ne h3, hd _ hn17]; exact h2
    · rw [List.getElem?_append_right (by simp [hlen])]; simp [hlen]
    · rw [List.getElem?_append_left (by simp [hlen]; exact hj), List.getElem?_set_ne (fun e => hno (.inl e.symm)), hd _ (fun e => hno (.inr (.inr e)))]
    · rcases ho with h | h | h
      · exact .inl (.inl h)
      · exact .inl (.inr (.inl h))
      · injection h with h; exact .inr (by omega)
end Go.Ax

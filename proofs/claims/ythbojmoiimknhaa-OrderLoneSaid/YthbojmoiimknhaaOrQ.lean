import Derived.Test.YthbojmoiimknhaaOrP
set_option linter.unusedSimpArgs false
set_option linter.unusedVariables false
namespace Go.Ax
open Go.Proofs Go.Ord

/-- A way of one step or more. -/
def RchP (to : List (List Nat)) (i k : Nat) : Prop := ∃ w ∈ adj to i, Rch to w k

theorem RchP.trans {to : List (List Nat)} {i k j : Nat} (h : RchP to i k) (h2 : RchP to k j) : RchP to i j := by
  obtain ⟨w, hw, hr⟩ := h
  obtain ⟨w2, hw2, hr2⟩ := h2
  exact ⟨w, hw, hr.trans (.step hw2 hr2)⟩
theorem rch_iff {to : List (List Nat)} {i k : Nat} : Rch to i k ↔ i = k ∨ RchP to i k := by
  constructor
  · intro h
    cases h with
    | refl => exact .inl rfl
    | step h1 h2 => exact .inr ⟨_, h1, h2⟩
  · rintro (rfl | ⟨w, hw, hr⟩)
    · exact .refl _
    · exact .step hw hr

/-- How far a round of the closure has come. -/
def Wst (R : Nat → Nat → Bool) (m i k : Nat) : Nat → Nat → Bool := fun i' k' => if i' < i ∨ (i' = i ∧ k' < k) then (R i' k' || (R i' m && R m k')) else R i' k'

theorem Wst_here (R : Nat → Nat → Bool) (m i : Nat) (k' : Nat) : Wst R m i 0 i k' = R i k' := by simp [Wst]
theorem Wst_mid (R : Nat → Nat → Bool) (m i k : Nat) (k' : Nat) : Wst R m i k m k' = R m k' := by
  simp only [Wst]
  split
  · cases R m k' <;> simp
  · rfl
theorem Wst_set {R : Nat → Nat → Bool} {m i k : Nat} (h : R i m = true) (i' k' : Nat) : Wst R m i (k + 1) i' k' = if i' = i ∧ k' = k then (R i k || R m k) else Wst R m i k i' k' := by
  simp only [Wst]
  by_cases h1 : i' = i
  · subst h1
    by_cases h2 : k' = k
    · subst h2; simp [h]
    · have : k' < k + 1 ↔ k' < k := by omega
      simp [h2, this]
  · simp [h1]
theorem Wst_end {R : Nat → Nat → Bool} {m i n : Nat} (i' k' : Nat) (hk : k' < n) : Wst R m i n i' k' = Wst R m (i + 1) 0 i' k' := by
  simp only [Wst]
  by_cases h1 : i' = i
  · subst h1; simp [hk]
  · have : i' < i + 1 ↔ i' < i := by omega
    simp [h1, this]
theorem Wst_skip {R : Nat → Nat → Bool} {m i : Nat} (h : R i m = false) (i' k' : Nat) : Wst R m i 0 i' k' = Wst R m (i + 1) 0 i' k' := by
  simp only [Wst]
  by_cases h1 : i' = i
  · subst h1; simp [h]
  · have : i' < i + 1 ↔ i' < i := by omega
    simp [h1, this]

/-- What the closure keeps. -/
structure Clo3 (to : List (List Nat)) (n : Nat) (R : Nat → Nat → Bool) (m : Nat) : Prop where
  sound : ∀ i k, i < n → k < n → R i k = true → RchP to i k
  edge : ∀ i k, i < n → k < n → k ∈ adj to i → R i k = true
  tr : ∀ m', m' < m → ∀ i k, i < n → k < n → R i m' = true → R m' k = true → R i k = true

theorem Clo3.next {to : List (List Nat)} {n : Nat} {R : Nat → Nat → Bool} {m : Nat} (h : Clo3 to n R m) (hm : m < n) : Clo3 to n (Wst R m n 0) (m + 1) := by
  have key : ∀ i k, i < n → Wst R m n 0 i k = (R i k || (R i m && R m k)) := fun i k hi => by simp [Wst, hi]
  refine ⟨fun i k hi hk hr => ?_, fun i k hi hk ha => ?_, fun m' hm' i k hi hk h1 h2 => ?_⟩
  · rw [key i k hi] at hr
    simp only [Bool.or_eq_true, Bool.and_eq_true] at hr
    rcases hr with hr | ⟨h1, h2⟩
    · exact h.sound i k hi hk hr
    · exact (h.sound i m hi hm h1).trans (h.sound m k hm hk h2)
  · rw [key i k hi, h.edge i k hi hk ha]; rfl
  · have hmn : m' < n := by omega
    rw [key i m' hi] at h1
    rw [key m' k hmn] at h2
    rw [key i k hi]
    simp only [Bool.or_eq_true, Bool.and_eq_true] at h1 h2 ⊢
    by_cases hmm : m' = m
    · subst hmm
      have a1 : R i m' = true := by rcases h1 with h1 | h1; exact h1; exact h1.1
      have a2 : R m' k = true := by rcases h2 with h2 | h2; exact h2; exact h2.2
      exact .inr ⟨a1, a2⟩
    · have hlt : m' < m := by omega
      rcases h1 with h1 | ⟨h1, h1'⟩
      · rcases h2 with h2 | ⟨h2, h2'⟩
        · exact .inl (h.tr m' hlt i k hi hk h1 h2)
        · exact .inr ⟨h.tr m' hlt i m hi hm h1 h2, h2'⟩
      · rcases h2 with h2 | ⟨h2, h2'⟩
        · exact .inr ⟨h1, h.tr m' hlt m k hm hk h1' h2⟩
        · exact .inr ⟨h1, h2'⟩

theorem Clo3.all {to : List (List Nat)} {n : Nat} (hn : n = to.length) (hg : Good to) {R : Nat → Nat → Bool} (h : Clo3 to n R n) {i k : Nat} (hi : i < n) (hk : k < n) : R i k = true ↔ RchP to i k := by
  refine ⟨h.sound i k hi hk, ?_⟩
  rintro ⟨w, hw, hr⟩
  have hwn : w < n := by rw [hn]; exact hg i w hw
  have e := h.edge i w hi hwn hw
  have key : ∀ {a b : Nat}, Rch to a b → a < n → b < n → a = b ∨ R a b = true := by
    intro a b hab
    induction hab with
    | refl => exact fun _ _ => .inl rfl
    | @step a c b h1 h2 ih =>
      intro ha hb
      have hc : c < n := by rw [hn]; exact hg a c h1
      have e1 := h.edge a c ha hc h1
      rcases ih hc hb with rfl | h3
      · exact .inr e1
      · exact .inr (h.tr c hc a b ha hb e1 h3)
  rcases key hr hwn hk with rfl | h3
  · exact e
  · exact h.tr w hwn i k hi hk e h3

/-- Reach: who reaches whom in one step or more. -/
theorem reach_ok {M : AMem} {to : List (List Int)} (hok : okTo to = true) (hn : to.length ≤ 40) (hrl : ∀ l ∈ to, l.length ≤ 9223372036854775807) :
    ACalls Try.prog 43 [.list .dull (rowsV to)] M (fun r M' => ∃ ids tg R, r = .list tg (ids.map fun j => V.arr j 0 to.length 1) ∧ ids.length = to.length ∧ RB M' M.length ids to.length R ∧ (∀ i k, i < to.length → k < to.length → (R i k = true ↔ RchP (toN to) i k)) ∧ M.length ≤ M'.length ∧ ∀ j, j < M.length → M'[j]? = M[j]?) := by
  refine acalls_enter [.tmp 2] 79 Try.func43 rfl rfl rfl (by simp) ?_
  refine reach_edges hok hn hrl _ (by simp only [go_sem, Nat.reduceEqDiff, Nat.reduceLT, Nat.reduceAdd, Nat.reduceLeDiff, Nat.reduceMul, Nat.reduceSub, Int.reduceLE, Int.reduceLT, Int.reduceToNat, Int.reducePow, Int.reduceEq]) ?_
  intro F M1 ids tg f3 f4 hil hrb hml hkeep
  obtain ⟨n, hnn⟩ : ∃ n, n = to.length := ⟨_, rfl⟩
  rw [← hnn] at f3 f4 hil hrb hn ⊢
  have hgood := toN_good hok
  have hnt : n = (toN to).length := by rw [toN_len]; exact hnn
  (repeat (first | refine W_seq ?_ | refine W_block ?_ | refine W_blk ?_ | refine W_skip ?_))
  (refine W_region [] (by rfl) fun K hK => ?_; simp only [go_sem, Nat.reduceEqDiff, Nat.reduceLT, Nat.reduceAdd, Nat.reduceLeDiff, Nat.reduceMul, Nat.reduceSub, Int.reduceLE, Int.reduceLT, Int.reduceToNat, Int.reducePow, Int.reduceEq])
  (refine WRun.done _ _ (hK _ _ ?_); clear hK)
  (repeat (first | refine W_seq ?_ | refine W_block ?_ | refine W_blk ?_ | refine W_skip ?_))
  refine W_loop (α := Nat × (Nat → Nat → Bool)) (fun q F' M' => q.1 ≤ n ∧ look F' 3 = V.int n ∧ look F' 4 = .list tg (ids.map fun j => V.arr j 0 n 1) ∧ look F' 8 = V.int q.1 ∧ RB M' M.length ids n q.2 ∧ Clo3 (toN to) n q.2 q.1 ∧ M.length ≤ M'.length ∧ (∀ j, j < M.length → M'[j]? = M[j]?))
    (fun q => n - q.1) (0, _) ⟨Nat.zero_le _, ?_, ?_, ?_, hrb, ⟨fun i k hi hk h => ⟨k, of_decide_eq_true h, .refl k⟩, fun i k hi hk h => decide_eq_true h, fun m' hm' => absurd hm' (Nat.not_lt_zero _)⟩, hml, hkeep⟩ ?_
  · simp only [go_sem, Nat.reduceEqDiff, Nat.reduceLT, Nat.reduceAdd, Nat.reduceLeDiff, Nat.reduceMul, Nat.reduceSub, Int.reduceLE, Int.reduceLT, Int.reduceToNat, Int.reducePow, Int.reduceEq, f3]
  · simp only [go_sem, Nat.reduceEqDiff, Nat.reduceLT, Nat.reduceAdd, Nat.reduceLeDiff, Nat.reduceMul, Nat.reduceSub, Int.reduceLE, Int.reduceLT, Int.reduceToNat, Int.reducePow, Int.reduceEq, f4]
  · simp only [go_sem, Nat.reduceEqDiff, Nat.reduceLT, Nat.reduceAdd, Nat.reduceLeDiff, Nat.reduceMul, Nat.reduceSub, Int.reduceLE, Int.reduceLT, Int.reduceToNat, Int.reducePow, Int.reduceEq]
  clear f3 f4 F hrb hml hkeep
  rintro ⟨m, R⟩ F M2 ⟨hm, f3, f4, f8, hrb, hclo, hml, hkeep⟩
  simp only at hm f8 hrb hclo
  by_cases hlm : m < n
  · have hlm' : (m : Int) < (n : Int) := by omega
    have hm1' : (m : Int) < (ids.length : Int) := by omega
    have hwm : IntKind.i64.wrap ((m : Int) + 1) = ((m + 1 : Nat) : Int) := by rw [wrapI _ (by omega) (by omega)]; omega
    (repeat (first | refine W_seq ?_ | refine W_block ?_ | refine W_blk ?_ | refine W_skip ?_))
    (refine W_region [] (by rfl) fun K hK => ?_; simp only [go_sem, Nat.reduceEqDiff, Nat.reduceLT, Nat.reduceAdd, Nat.reduceLeDiff, Nat.reduceMul, Nat.reduceSub, Int.reduceLE, Int.reduceLT, Int.reduceToNat, Int.reducePow, Int.reduceEq, f3, f8, hlm'])
    (refine WRun.done _ _ (hK _ _ ?_); clear hK)
    (repeat (first | refine W_seq ?_ | refine W_block ?_ | refine W_blk ?_ | refine W_skip ?_))
    refine W_cond_true (by simp only [go_sem, Nat.reduceEqDiff, Nat.reduceLT, Nat.reduceAdd, Nat.reduceLeDiff, Nat.reduceMul, Nat.reduceSub, Int.reduceLE, Int.reduceLT, Int.reduceToNat, Int.reducePow, Int.reduceEq]) ?_
    (repeat (first | refine W_seq ?_ | refine W_block ?_ | refine W_blk ?_ | refine W_skip ?_))
    (refine W_region [] (by rfl) fun K hK => ?_; simp only [go_sem, Nat.reduceEqDiff, Nat.reduceLT, Nat.reduceAdd, Nat.reduceLeDiff, Nat.reduceMul, Nat.reduceSub, Int.reduceLE, Int.reduceLT, Int.reduceToNat, Int.reducePow, Int.reduceEq])
    (refine WRun.done _ _ (hK _ _ ?_); clear hK)
    (repeat (first | refine W_seq ?_ | refine W_block ?_ | refine W_blk ?_ | refine W_skip ?_))
    refine W_loop (α := Nat) (fun i F' M' => i ≤ n ∧ look F' 3 = V.int n ∧ look F' 4 = .list tg (ids.map fun j => V.arr j 0 n 1) ∧ look F' 8 = V.int m ∧ look F' 9 = V.int i ∧ RB M' M.length ids n (Wst R m i 0) ∧ M.length ≤ M'.length ∧ (∀ j, j < M.length → M'[j]? = M[j]?))
      (fun i => n - i) 0 ⟨Nat.zero_le _, ?_, ?_, ?_, ?_, hrb.congr fun i k _ _ => by simp [Wst], hml, hkeep⟩ ?_
    · simp only [go_sem, Nat.reduceEqDiff, Nat.reduceLT, Nat.reduceAdd, Nat.reduceLeDiff, Nat.reduceMul, Nat.reduceSub, Int.reduceLE, Int.reduceLT, Int.reduceToNat, Int.reducePow, Int.reduceEq, f3]
    · simp only [go_sem, Nat.reduceEqDiff, Nat.reduceLT, Nat.reduceAdd, Nat.reduceLeDiff, Nat.reduceMul, Nat.reduceSub, Int.reduceLE, Int.reduceLT, Int.reduceToNat, Int.reducePow, Int.reduceEq, f4]
    · simp only [go_sem, Nat.reduceEqDiff, Nat.reduceLT, Nat.reduceAdd, Nat.reduceLeDiff, Nat.reduceMul, Nat.reduceSub, Int.reduceLE, Int.reduceLT, Int.reduceToNat, Int.reducePow, Int.reduceEq, f8]
    · simp only [go_sem, Nat.reduceEqDiff, Nat.reduceLT, Nat.reduceAdd, Nat.reduceLeDiff, Nat.reduceMul, Nat.reduceSub, Int.reduceLE, Int.reduceLT, Int.reduceToNat, Int.reducePow, Int.reduceEq]
    clear f3 f4 f8 F hrb hml hkeep
    rintro i F M3 ⟨hi, f3, f4, f8, f9, hrb, hml, hkeep⟩
    by_cases hli : i < n
    · have hli' : (i : Int) < (n : Int) := by omega
      have hi1' : (i : Int) < (ids.length : Int) := by omega
      have hwi : IntKind.i64.wrap ((i : Int) + 1) = ((i + 1 : Nat) : Int) := by rw [wrapI _ (by omega) (by omega)]; omega
      obtain ⟨id, hid, hpid, hrow⟩ := hrb.at (i := i) (by omega)
      have hcm := cellsB_at (Wst R m i 0 i) hlm
      rw [Wst_here] at hcm
      (repeat (first | refine W_seq ?_ | refine W_block ?_ | refine W_blk ?_ | refine W_skip ?_))
      (refine W_region [] (by rfl) fun K hK => ?_; simp only [go_sem, Nat.reduceEqDiff, Nat.reduceLT, Nat.reduceAdd, Nat.reduceLeDiff, Nat.reduceMul, Nat.reduceSub, Int.reduceLE, Int.reduceLT, Int.reduceToNat, Int.reducePow, Int.reduceEq, f3, f9, hli'])
      (refine WRun.done _ _ (hK _ _ ?_); clear hK)
      (repeat (first | refine W_seq ?_ | refine W_block ?_ | refine W_blk ?_ | refine W_skip ?_))
      refine W_cond_true (by simp only [go_sem, Nat.reduceEqDiff, Nat.reduceLT, Nat.reduceAdd, Nat.reduceLeDiff, Nat.reduceMul, Nat.reduceSub, Int.reduceLE, Int.reduceLT, Int.reduceToNat, Int.reducePow, Int.reduceEq]) ?_
      (repeat (first | refine W_seq ?_ | refine W_block ?_ | refine W_blk ?_ | refine W_skip ?_))
      cases hb : R i m with
      | false =>
        rw [hb] at hcm
        (refine W_region [] (by rfl) fun K hK => ?_; simp only [go_sem, Nat.reduceEqDiff, Nat.reduceLT, Nat.reduceAdd, Nat.reduceLeDiff, Nat.reduceMul, Nat.reduceSub, Int.reduceLE, Int.reduceLT, Int.reduceToNat, Int.reducePow, Int.reduceEq, f4, f8, f9, hpid, hi1', hlm', hrow, hcm, List.length_map, Int.natCast_nonneg, Int.toNat_natCast, List.head?_drop, Nat.zero_add])
        (refine WRun.done _ _ (hK _ _ ?_); clear hK)
        (repeat (first | refine W_seq ?_ | refine W_block ?_ | refine W_blk ?_ | refine W_skip ?_))
        refine W_cond_true (by simp only [go_sem, Nat.reduceEqDiff, Nat.reduceLT, Nat.reduceAdd, Nat.reduceLeDiff, Nat.reduceMul, Nat.reduceSub, Int.reduceLE, Int.reduceLT, Int.reduceToNat, Int.reducePow, Int.reduceEq]) ?_
        refine W_exit (Qof_code (Qof_blk_same ?_))
        (repeat (first | refine W_seq ?_ | refine W_block ?_ | refine W_blk ?_ | refine W_skip ?_))
        (refine W_region [] (by rfl) fun K hK => ?_; simp only [go_sem, Nat.reduceEqDiff, Nat.reduceLT, Nat.reduceAdd, Nat.reduceLeDiff, Nat.reduceMul, Nat.reduceSub, Int.reduceLE, Int.reduceLT, Int.reduceToNat, Int.reducePow, Int.reduceEq, f9, hwi])
        (refine WRun.done _ _ (hK _ _ ?_); clear hK)
        refine W_stop ⟨i + 1, ⟨hli, ?_, ?_, ?_, ?_, hrb.congr fun a b _ _ => Wst_skip hb a b, hml, hkeep⟩, by omega⟩
        · simp only [go_sem, Nat.reduceEqDiff, Nat.reduceLT, Nat.reduceAdd, Nat.reduceLeDiff, Nat.reduceMul, Nat.reduceSub, Int.reduceLE, Int.reduceLT, Int.reduceToNat, Int.reducePow, Int.reduceEq, f3]
        · simp only [go_sem, Nat.reduceEqDiff, Nat.reduceLT, Nat.reduceAdd, Nat.reduceLeDiff, Nat.reduceMul, Nat.reduceSub, Int.reduceLE, Int.reduceLT, Int.reduceToNat, Int.reducePow, Int.reduceEq, f4]
        · simp only [go_sem, Nat.reduceEqDiff, Nat.reduceLT, Nat.reduceAdd, Nat.reduceLeDiff, Nat.reduceMul, Nat.reduceSub, Int.reduceLE, Int.reduceLT, Int.reduceToNat, Int.reducePow, Int.reduceEq, f8]
        · simp only [go_sem, Nat.reduceEqDiff, Nat.reduceLT, Nat.reduceAdd, Nat.reduceLeDiff, Nat.reduceMul, Nat.reduceSub, Int.reduceLE, Int.reduceLT, Int.reduceToNat, Int.reducePow, Int.reduceEq]
      | true =>
        rw [hb] at hcm
        (refine W_region [] (by rfl) fun K hK => ?_; simp only [go_sem, Nat.reduceEqDiff, Nat.reduceLT, Nat.reduceAdd, Nat.reduceLeDiff, Nat.reduceMul, Nat.reduceSub, Int.reduceLE, Int.reduceLT, Int.reduceToNat, Int.reducePow, Int.reduceEq, f4, f8, f9, hpid, hi1', hlm', hrow, hcm, List.length_map, Int.natCast_nonneg, Int.toNat_natCast, List.head?_drop, Nat.zero_add])
        (refine WRun.done _ _ (hK _ _ ?_); clear hK)
        (repeat (first | refine W_seq ?_ | refine W_block ?_ | refine W_blk ?_ | refine W_skip ?_))
        refine W_cond_false (by simp only [go_sem, Nat.reduceEqDiff, Nat.reduceLT, Nat.reduceAdd, Nat.reduceLeDiff, Nat.reduceMul, Nat.reduceSub, Int.reduceLE, Int.reduceLT, Int.reduceToNat, Int.reducePow, Int.reduceEq]) ?_
        (repeat (first | refine W_seq ?_ | refine W_block ?_ | refine W_blk ?_ | refine W_skip ?_))
        (refine W_region [] (by rfl) fun K hK => ?_; simp only [go_sem, Nat.reduceEqDiff, Nat.reduceLT, Nat.reduceAdd, Nat.reduceLeDiff, Nat.reduceMul, Nat.reduceSub, Int.reduceLE, Int.reduceLT, Int.reduceToNat, Int.reducePow, Int.reduceEq])
        (refine WRun.done _ _ (hK _ _ ?_); clear hK)
        (repeat (first | refine W_seq ?_ | refine W_block ?_ | refine W_blk ?_ | refine W_skip ?_))
        refine W_loop (α := Nat) (fun k F' M' => k ≤ n ∧ look F' 3 = V.int n ∧ look F' 4 = .list tg (ids.map fun j => V.arr j 0 n 1) ∧ look F' 8 = V.int m ∧ look F' 9 = V.int i ∧ look F' 10 = V.int k ∧ RB M' M.length ids n (Wst R m i k) ∧ M.length ≤ M'.length ∧ (∀ j, j < M.length → M'[j]? = M[j]?))
          (fun k => n - k) 0 ⟨Nat.zero_le _, ?_, ?_, ?_, ?_, ?_, hrb, hml, hkeep⟩ ?_
        · simp only [go_sem, Nat.reduceEqDiff, Nat.reduceLT, Nat.reduceAdd, Nat.reduceLeDiff, Nat.reduceMul, Nat.reduceSub, Int.reduceLE, Int.reduceLT, Int.reduceToNat, Int.reducePow, Int.reduceEq, f3]
        · simp only [go_sem, Nat.reduceEqDiff, Nat.reduceLT, Nat.reduceAdd, Nat.reduceLeDiff, Nat.reduceMul, Nat.reduceSub, Int.reduceLE, Int.reduceLT, Int.reduceToNat, Int.reducePow, Int.reduceEq, f4]
        · simp only [go_sem, Nat.reduceEqDiff, Nat.reduceLT, Nat.reduceAdd, Nat.reduceLeDiff, Nat.reduceMul, Nat.reduceSub, Int.reduceLE, Int.reduceLT, Int.reduceToNat, Int.reducePow, Int.reduceEq, f8]
        · simp only [go_sem, Nat.reduceEqDiff, Nat.reduceLT, Nat.reduceAdd, Nat.reduceLeDiff, Nat.reduceMul, Nat.reduceSub, Int.reduceLE, Int.reduceLT, Int.reduceToNat, Int.reducePow, Int.reduceEq, f9]
        · simp only [go_sem, Nat.reduceEqDiff, Nat.reduceLT, Nat.reduceAdd, Nat.reduceLeDiff, Nat.reduceMul, Nat.reduceSub, Int.reduceLE, Int.reduceLT, Int.reduceToNat, Int.reducePow, Int.reduceEq]
        clear f3 f4 f8 f9 F hrb hml hkeep hrow hcm
        rintro k F M4 ⟨hk, f3, f4, f8, f9, f10, hrb, hml, hkeep⟩
        by_cases hlk : k < n
        · have hlk' : (k : Int) < (n : Int) := by omega
          have hk1 : k + 1 ≤ n := hlk
          have hwk : IntKind.i64.wrap ((k : Int) + 1) = ((k + 1 : Nat) : Int) := by rw [wrapI _ (by omega) (by omega)]; omega
          obtain ⟨md, hmd, hpmd, hmrow⟩ := hrb.at (i := m) (by omega)
          have hcmk := cellsB_at (Wst R m i k m) hlk
          rw [Wst_mid] at hcmk
          have hirow := hrb.rows i id hid
          have o1 := overB (Wst R m i k i) hlk true
          have hbase := hrb.base id (List.mem_of_getElem? hid)
          (repeat (first | refine W_seq ?_ | refine W_block ?_ | refine W_blk ?_ | refine W_skip ?_))
          (refine W_region [] (by rfl) fun K hK => ?_; simp only [go_sem, Nat.reduceEqDiff, Nat.reduceLT, Nat.reduceAdd, Nat.reduceLeDiff, Nat.reduceMul, Nat.reduceSub, Int.reduceLE, Int.reduceLT, Int.reduceToNat, Int.reducePow, Int.reduceEq, f3, f10, hlk'])
          (refine WRun.done _ _ (hK _ _ ?_); clear hK)
          (repeat (first | refine W_seq ?_ | refine W_block ?_ | refine W_blk ?_ | refine W_skip ?_))
          refine W_cond_true (by simp only [go_sem, Nat.reduceEqDiff, Nat.reduceLT, Nat.reduceAdd, Nat.reduceLeDiff, Nat.reduceMul, Nat.reduceSub, Int.reduceLE, Int.reduceLT, Int.reduceToNat, Int.reducePow, Int.reduceEq]) ?_
          (repeat (first | refine W_seq ?_ | refine W_block ?_ | refine W_blk ?_ | refine W_skip ?_))
          cases hb2 : R m k with
          | true =>
            rw [hb2] at hcmk
            (refine W_region [] (by rfl) fun K hK => ?_; simp only [go_sem, Nat.reduceEqDiff, Nat.reduceLT, Nat.reduceAdd, Nat.reduceLeDiff, Nat.reduceMul, Nat.reduceSub, Int.reduceLE, Int.reduceLT, Int.reduceToNat, Int.reducePow, Int.reduceEq, f4, f8, f10, hpmd, hm1', hlk', hmrow, hcmk, List.length_map, Int.natCast_nonneg, Int.toNat_natCast, List.head?_drop, Nat.zero_add])
            (refine WRun.done _ _ (hK _ _ ?_); clear hK)
            (repeat (first | refine W_seq ?_ | refine W_block ?_ | refine W_blk ?_ | refine W_skip ?_))
            refine W_cond_true (by simp only [go_sem, Nat.reduceEqDiff, Nat.reduceLT, Nat.reduceAdd, Nat.reduceLeDiff, Nat.reduceMul, Nat.reduceSub, Int.reduceLE, Int.reduceLT, Int.reduceToNat, Int.reducePow, Int.reduceEq]) ?_
            (repeat (first | refine W_seq ?_ | refine W_block ?_ | refine W_blk ?_ | refine W_skip ?_))
            (refine W_region [] (by rfl) fun K hK => ?_; simp only [go_sem, Nat.reduceEqDiff, Nat.reduceLT, Nat.reduceAdd, Nat.reduceLeDiff, Nat.reduceMul, Nat.reduceSub, Int.reduceLE, Int.reduceLT, Int.reduceToNat, Int.reducePow, Int.reduceEq, f4, f9, f10, hpid, hi1', hlk', hirow, cellsB_len, hk1, o1, List.length_map, Int.natCast_nonneg, Int.toNat_natCast, List.head?_drop, Nat.zero_add])
            (refine WRun.done _ _ (hK _ _ ?_); clear hK)
            (repeat (first | refine W_seq ?_ | refine W_block ?_ | refine W_blk ?_ | refine W_skip ?_))
            (refine W_region [] (by rfl) fun K hK => ?_; simp only [go_sem, Nat.reduceEqDiff, Nat.reduceLT, Nat.reduceAdd, Nat.reduceLeDiff, Nat.reduceMul, Nat.reduceSub, Int.reduceLE, Int.reduceLT, Int.reduceToNat, Int.reducePow, Int.reduceEq, f10, hwk])
            (refine WRun.done _ _ (hK _ _ ?_); clear hK)
            refine W_stop ⟨k + 1, ⟨hlk, ?_, ?_, ?_, ?_, ?_, hrb.set hid _ (fun b _ => ?_) (fun a b hne _ => ?_), by simp; exact hml, fun j hj => ?_⟩, by omega⟩
            · simp only [go_sem, Nat.reduceEqDiff, Nat.reduceLT, Nat.reduceAdd, Nat.reduceLeDiff, Nat.reduceMul, Nat.reduceSub, Int.reduceLE, Int.reduceLT, Int.reduceToNat, Int.reducePow, Int.reduceEq, f3]
            · simp only [go_sem, Nat.reduceEqDiff, Nat.reduceLT, Nat.reduceAdd, Nat.reduceLeDiff, Nat.reduceMul, Nat.reduceSub, Int.reduceLE, Int.reduceLT, Int.reduceToNat, Int.reducePow, Int.reduceEq, f4]
            · simp only [go_sem, Nat.reduceEqDiff, Nat.reduceLT, Nat.reduceAdd, Nat.reduceLeDiff, Nat.reduceMul, Nat.reduceSub, Int.reduceLE, Int.reduceLT, Int.reduceToNat, Int.reducePow, Int.reduceEq, f8]
            · simp only [go_sem, Nat.reduceEqDiff, Nat.reduceLT, Nat.reduceAdd, Nat.reduceLeDiff, Nat.reduceMul, Nat.reduceSub, Int.reduceLE, Int.reduceLT, Int.reduceToNat, Int.reducePow, Int.reduceEq, f9]
            · simp only [go_sem, Nat.reduceEqDiff, Nat.reduceLT, Nat.reduceAdd, Nat.reduceLeDiff, Nat.reduceMul, Nat.reduceSub, Int.reduceLE, Int.reduceLT, Int.reduceToNat, Int.reducePow, Int.reduceEq]
            · rw [Wst_set hb]
              by_cases hbk : b = k
              · subst hbk; simp [upd, hb2]
              · simp [upd, hbk]
            · rw [Wst_set hb]; simp [hne]
            · rw [List.getElem?_set_ne (by omega)]; exact hkeep j hj
          | false =>
            rw [hb2] at hcmk
            (refine W_region [] (by rfl) fun K hK => ?_; simp only [go_sem, Nat.reduceEqDiff, Nat.reduceLT, Nat.reduceAdd, Nat.reduceLeDiff, Nat.reduceMul, Nat.reduceSub, Int.reduceLE, Int.reduceLT, Int.reduceToNat, Int.reducePow, Int.reduceEq, f4, f8, f10, hpmd, hm1', hlk', hmrow, hcmk, List.length_map, Int.natCast_nonneg, Int.toNat_natCast, List.head?_drop, Nat.zero_add])
            (refine WRun.done _ _ (hK _ _ ?_); clear hK)
            (repeat (first | refine W_seq ?_ | refine W_block ?_ | refine W_blk ?_ | refine W_skip ?_))
            refine W_cond_false (by simp only [go_sem, Nat.reduceEqDiff, Nat.reduceLT, Nat.reduceAdd, Nat.reduceLeDiff, Nat.reduceMul, Nat.reduceSub, Int.reduceLE, Int.reduceLT, Int.reduceToNat, Int.reducePow, Int.reduceEq]) ?_
            (repeat (first | refine W_seq ?_ | refine W_block ?_ | refine W_blk ?_ | refine W_skip ?_))
            (refine W_region [] (by rfl) fun K hK => ?_; simp only [go_sem, Nat.reduceEqDiff, Nat.reduceLT, Nat.reduceAdd, Nat.reduceLeDiff, Nat.reduceMul, Nat.reduceSub, Int.reduceLE, Int.reduceLT, Int.reduceToNat, Int.reducePow, Int.reduceEq, f10, hwk])
            (refine WRun.done _ _ (hK _ _ ?_); clear hK)
            refine W_stop ⟨k + 1, ⟨hlk, ?_, ?_, ?_, ?_, ?_, hrb.congr fun a b _ _ => ?_, hml, hkeep⟩, by omega⟩
            · simp only [go_sem, Nat.reduceEqDiff, Nat.reduceLT, Nat.reduceAdd, Nat.reduceLeDiff, Nat.reduceMul, Nat.reduceSub, Int.reduceLE, Int.reduceLT, Int.reduceToNat, Int.reducePow, Int.reduceEq, f3]
            · simp only [go_sem, Nat.reduceEqDiff, Nat.reduceLT, Nat.reduceAdd, Nat.reduceLeDiff, Nat.reduceMul, Nat.reduceSub, Int.reduceLE, Int.reduceLT, Int.reduceToNat, Int.reducePow, Int.reduceEq, f4]
            · simp only [go_sem, Nat.reduceEqDiff, Nat.reduceLT, Nat.reduceAdd, Nat.reduceLeDiff, Nat.reduceMul, Nat.reduceSub, Int.reduceLE, Int.reduceLT, Int.reduceToNat, Int.reducePow, Int.reduceEq, f8]
            · simp only [go_sem, Nat.reduceEqDiff, Nat.reduceLT, Nat.reduceAdd, Nat.reduceLeDiff, Nat.reduceMul, Nat.reduceSub, Int.reduceLE, Int.reduceLT, Int.reduceToNat, Int.reducePow, Int.reduceEq, f9]
            · simp only [go_sem, Nat.reduceEqDiff, Nat.reduceLT, Nat.reduceAdd, Nat.reduceLeDiff, Nat.reduceMul, Nat.reduceSub, Int.reduceLE, Int.reduceLT, Int.reduceToNat, Int.reducePow, Int.reduceEq]
            · rw [Wst_set hb]
              split
              · rename_i h; obtain ⟨rfl, rfl⟩ := h; simp [Wst, hb2]
              · rfl
        · have hlk' : ¬ (k : Int) < (n : Int) := by omega
          have hkn : k = n := by omega
          subst hkn
          (repeat (first | refine W_seq ?_ | refine W_block ?_ | refine W_blk ?_ | refine W_skip ?_))
          (refine W_region [] (by rfl) fun K hK => ?_; simp only [go_sem, Nat.reduceEqDiff, Nat.reduceLT, Nat.reduceAdd, Nat.reduceLeDiff, Nat.reduceMul, Nat.reduceSub, Int.reduceLE, Int.reduceLT, Int.reduceToNat, Int.reducePow, Int.reduceEq, f3, f10, hlk'])
          (refine WRun.done _ _ (hK _ _ ?_); clear hK)
          (repeat (first | refine W_seq ?_ | refine W_block ?_ | refine W_blk ?_ | refine W_skip ?_))
          refine W_cond_false (by simp only [go_sem, Nat.reduceEqDiff, Nat.reduceLT, Nat.reduceAdd, Nat.reduceLeDiff, Nat.reduceMul, Nat.reduceSub, Int.reduceLE, Int.reduceLT, Int.reduceToNat, Int.reducePow, Int.reduceEq]) ?_
          refine W_exit (Qof_code (Qof_stop (Qof_blk_same ?_)))
          (repeat (first | refine W_seq ?_ | refine W_block ?_ | refine W_blk ?_ | refine W_skip ?_))
          (refine W_region [] (by rfl) fun K hK => ?_; simp only [go_sem, Nat.reduceEqDiff, Nat.reduceLT, Nat.reduceAdd, Nat.reduceLeDiff, Nat.reduceMul, Nat.reduceSub, Int.reduceLE, Int.reduceLT, Int.reduceToNat, Int.reducePow, Int.reduceEq, f9, hwi])
          (refine WRun.done _ _ (hK _ _ ?_); clear hK)
          refine W_stop ⟨i + 1, ⟨hli, ?_, ?_, ?_, ?_, hrb.congr fun a b _ hbn => Wst_end a b hbn, hml, hkeep⟩, by omega⟩
          · simp only [go_sem, Nat.reduceEqDiff, Nat.reduceLT, Nat.reduceAdd, Nat.reduceLeDiff, Nat.reduceMul, Nat.reduceSub, Int.reduceLE, Int.reduceLT, Int.reduceToNat, Int.reducePow, Int.reduceEq, f3]
          · simp only [go_sem, Nat.reduceEqDiff, Nat.reduceLT, Nat.reduceAdd, Nat.reduceLeDiff, Nat.reduceMul, Nat.reduceSub, Int.reduceLE, Int.reduceLT, Int.reduceToNat, Int.reducePow, Int.reduceEq, f4]
          · simp only [go_sem, Nat.reduceEqDiff, Nat.reduceLT, Nat.reduceAdd, Nat.reduceLeDiff, Nat.reduceMul, Nat.reduceSub, Int.reduceLE, Int.reduceLT, Int.reduceToNat, Int.reducePow, Int.reduceEq, f8]
          · simp only [go_sem, Nat.reduceEqDiff, Nat.reduceLT, Nat.reduceAdd, Nat.reduceLeDiff, Nat.reduceMul, Nat.reduceSub, Int.reduceLE, Int.reduceLT, Int.reduceToNat, Int.reducePow, Int.reduceEq]
    · have hli' : ¬ (i : Int) < (n : Int) := by omega
      have hin : i = n := by omega
      subst hin
      (repeat (first | refine W_seq ?_ | refine W_block ?_ | refine W_blk ?_ | refine W_skip ?_))
      (refine W_region [] (by rfl) fun K hK => ?_; simp only [go_sem, Nat.reduceEqDiff, Nat.reduceLT, Nat.reduceAdd, Nat.reduceLeDiff, Nat.reduceMul, Nat.reduceSub, Int.reduceLE, Int.reduceLT, Int.reduceToNat, Int.reducePow, Int.reduceEq, f3, f9, hli'])
      (refine WRun.done _ _ (hK _ _ ?_); clear hK)
      (repeat (first | refine W_seq ?_ | refine W_block ?_ | refine W_blk ?_ | refine W_skip ?_))
      refine W_cond_false (by simp only [go_sem, Nat.reduceEqDiff, Nat.reduceLT, Nat.reduceAdd, Nat.reduceLeDiff, Nat.reduceMul, Nat.reduceSub, Int.reduceLE, Int.reduceLT, Int.reduceToNat, Int.reducePow, Int.reduceEq]) ?_
      refine W_exit (Qof_code (Qof_stop (Qof_blk_same ?_)))
      (repeat (first | refine W_seq ?_ | refine W_block ?_ | refine W_blk ?_ | refine W_skip ?_))
      (refine W_region [] (by rfl) fun K hK => ?_; simp only [go_sem, Nat.reduceEqDiff, Nat.reduceLT, Nat.reduceAdd, Nat.reduceLeDiff, Nat.reduceMul, Nat.reduceSub, Int.reduceLE, Int.reduceLT, Int.reduceToNat, Int.reducePow, Int.reduceEq, f8, hwm])
      (refine WRun.done _ _ (hK _ _ ?_); clear hK)
      refine W_stop ⟨(m + 1, Wst R m i 0), ⟨hlm, ?_, ?_, ?_, hrb, hclo.next hlm, hml, hkeep⟩, by show i - (m + 1) < i - m; omega⟩
      · simp only [go_sem, Nat.reduceEqDiff, Nat.reduceLT, Nat.reduceAdd, Nat.reduceLeDiff, Nat.reduceMul, Nat.reduceSub, Int.reduceLE, Int.reduceLT, Int.reduceToNat, Int.reducePow, Int.reduceEq, f3]
      · simp only [go_sem, Nat.reduceEqDiff, Nat.reduceLT, Nat.reduceAdd, Nat.reduceLeDiff, Nat.reduceMul, Nat.reduceSub, Int.reduceLE, Int.reduceLT, Int.reduceToNat, Int.reducePow, Int.reduceEq, f4]
      · simp only [go_sem, Nat.reduceEqDiff, Nat.reduceLT, Nat.reduceAdd, Nat.reduceLeDiff, Nat.reduceMul, Nat.reduceSub, Int.reduceLE, Int.reduceLT, Int.reduceToNat, Int.reducePow, Int.reduceEq]
  · have hlm' : ¬ (m : Int) < (n : Int) := by omega
    have hmn : m = n := by omega
    subst hmn
    (repeat (first | refine W_seq ?_ | refine W_block ?_ | refine W_blk ?_ | refine W_skip ?_))
    (refine W_region [] (by rfl) fun K hK => ?_; simp only [go_sem, Nat.reduceEqDiff, Nat.reduceLT, Nat.reduceAdd, Nat.reduceLeDiff, Nat.reduceMul, Nat.reduceSub, Int.reduceLE, Int.reduceLT, Int.reduceToNat, Int.reducePow, Int.reduceEq, f3, f8, hlm'])
    (refine WRun.done _ _ (hK _ _ ?_); clear hK)
    (repeat (first | refine W_seq ?_ | refine W_block ?_ | refine W_blk ?_ | refine W_skip ?_))
    refine W_cond_false (by simp only [go_sem, Nat.reduceEqDiff, Nat.reduceLT, Nat.reduceAdd, Nat.reduceLeDiff, Nat.reduceMul, Nat.reduceSub, Int.reduceLE, Int.reduceLT, Int.reduceToNat, Int.reducePow, Int.reduceEq]) ?_
    refine W_exit (Qof_code (Qof_stop (Qof_blk_same ?_)))
    (repeat (first | refine W_seq ?_ | refine W_block ?_ | refine W_blk ?_ | refine W_skip ?_))
    (refine W_region [] (by rfl) fun K hK => ?_; simp only [go_sem, Nat.reduceEqDiff, Nat.reduceLT, Nat.reduceAdd, Nat.reduceLeDiff, Nat.reduceMul, Nat.reduceSub, Int.reduceLE, Int.reduceLT, Int.reduceToNat, Int.reducePow, Int.reduceEq, f4])
    (refine WRun.done _ _ (hK _ _ ?_); clear hK)
    refine W_ret ?_
    simp only [go_sem, Nat.reduceEqDiff, Nat.reduceLT, Nat.reduceAdd, Nat.reduceLeDiff, Nat.reduceMul, Nat.reduceSub, Int.reduceLE, Int.reduceLT, Int.reduceToNat, Int.reducePow, Int.reduceEq]
    exact ⟨ids, tg, R, rfl, hil, hrb, fun i k hi hk => hclo.all hnt hgood hi hk, hml, hkeep⟩
end Go.Ax

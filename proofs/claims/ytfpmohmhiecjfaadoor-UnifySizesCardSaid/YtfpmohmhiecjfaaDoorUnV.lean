/- The type of nodes. Conditions: none. -/
import Derived.Test.YtfpmohmhiecjfaaDoorUnVp
import Derived.Test.YtfpmohmhiecjfaaDoorUnU
set_option linter.unusedSimpArgs false
set_option linter.unusedVariables false
namespace Go.Ax
open Go.Proofs Go.Uni

theorem encN_cells (x : Nd) : (encN x).cells = [.prim (.int .i8 x.v), .prim (.int .u8 (x.n : Int)), .prim (.int .u8 (x.a : Int))] := rfl
attribute [go_sem] encN_cells
theorem encN_ok (l : List Nd) : (∀ x, x ∈ l.map encN → x.cells.length = 3) = True := by
  refine eq_true fun x hx => ?_
  obtain ⟨y, _, rfl⟩ := List.mem_map.1 hx
  rfl
theorem encN_un (l : List Nd) : V.unL (l.map encN) = l.map encN := by
  rw [V.unL_eq, List.map_map]; rfl
attribute [go_sem] encN_un
def names4 : List V := [V.str ⟨#[73, 110, 116]⟩, V.str ⟨#[76, 105, 115, 116]⟩, V.str ⟨#[45, 62]⟩, V.str ⟨#[80, 97, 105, 114]⟩]
theorem names4_at (n : Nat) : names4[n % 4]? = some (V.str (nmF n)) := by
  have : n % 4 = 0 ∨ n % 4 = 1 ∨ n % 4 = 2 ∨ n % 4 = 3 := by omega
  unfold nmF
  rcases this with h | h | h | h <;> rw [h] <;> rfl
theorem tmod_nat (a b : Nat) : (a : Int).tmod (b : Int) = ((a % b : Nat) : Int) := rfl

set_option maxHeartbeats 8000000 in
theorem typ_ok : ∀ (d : Nat), d ≤ 13 → ∀ (l : List Nd), (∀ x ∈ l, x.ok) → l.length ≤ 100 → PCalls Tryd.prog 11 [.list .dull (l.map encN), V.int ((13 - d : Nat) : Int)] (.tup [enc (typF d l).1, V.int ((typF d l).2 : Int)])
  | 0, hd, l, hok, hl => by
    refine pcalls_of (by simp only [V.closed, V.closedL, enc_closed]; rfl) fun M => ?_
    refine acalls_enter [.cell 4 30, .tmp 5] 74 Tryd.func11 rfl rfl rfl (by simp) ?_
    by_cases hl0 : l = []
    · subst hl0
      (repeat (first | refine W_seq ?_ | refine W_block ?_ | refine W_blk ?_ | refine W_skip ?_ | (refine W_region [] (by rfl) fun K hK => ?_; simp only [go_sem, Nat.reduceEqDiff, Nat.reduceLT, Nat.reduceAdd, Nat.reduceLeDiff, Nat.reduceMul, Nat.reduceSub, Int.reduceLE, Int.reduceLT, Int.reduceToNat, Int.reducePow, Int.reduceEq]; refine WRun.done _ _ (hK _ _ ?_); clear hK)))
      refine W_cond_true (by simp only [go_sem, Nat.reduceEqDiff, Nat.reduceLT, Nat.reduceAdd, Nat.reduceLeDiff, Nat.reduceMul, Nat.reduceSub, Int.reduceLE, Int.reduceLT, Int.reduceToNat, Int.reducePow, Int.reduceEq]) ?_
      (repeat (first | refine W_seq ?_ | refine W_block ?_ | refine W_blk ?_ | refine W_skip ?_ | (refine W_region [] (by rfl) fun K hK => ?_; simp only [go_sem, Nat.reduceEqDiff, Nat.reduceLT, Nat.reduceAdd, Nat.reduceLeDiff, Nat.reduceMul, Nat.reduceSub, Int.reduceLE, Int.reduceLT, Int.reduceToNat, Int.reducePow, Int.reduceEq]; refine WRun.done _ _ (hK _ _ ?_); clear hK)))
      refine W_ret ?_
      simp only [go_sem, Nat.reduceEqDiff, Nat.reduceLT, Nat.reduceAdd, Nat.reduceLeDiff, Nat.reduceMul, Nat.reduceSub, Int.reduceLE, Int.reduceLT, Int.reduceToNat, Int.reducePow, Int.reduceEq, typF, enc, eStr]
      exact ⟨_, rfl⟩
    · have hl1 : ¬ ((l.length : Int) = 0) := by
        have := List.length_pos_iff.2 hl0
        omega
      have h12 : (12 : Int) < ((13 - 0 : Nat) : Int) := by omega
      (repeat (first | refine W_seq ?_ | refine W_block ?_ | refine W_blk ?_ | refine W_skip ?_ | (refine W_region [] (by rfl) fun K hK => ?_; simp only [go_sem, Nat.reduceEqDiff, Nat.reduceLT, Nat.reduceAdd, Nat.reduceLeDiff, Nat.reduceMul, Nat.reduceSub, Int.reduceLE, Int.reduceLT, Int.reduceToNat, Int.reducePow, Int.reduceEq, hl1, h12]; refine WRun.done _ _ (hK _ _ ?_); clear hK)))
      refine W_cond_true (by simp only [go_sem, Nat.reduceEqDiff, Nat.reduceLT, Nat.reduceAdd, Nat.reduceLeDiff, Nat.reduceMul, Nat.reduceSub, Int.reduceLE, Int.reduceLT, Int.reduceToNat, Int.reducePow, Int.reduceEq, h12]) ?_
      (repeat (first | refine W_seq ?_ | refine W_block ?_ | refine W_blk ?_ | refine W_skip ?_ | (refine W_region [] (by rfl) fun K hK => ?_; simp only [go_sem, Nat.reduceEqDiff, Nat.reduceLT, Nat.reduceAdd, Nat.reduceLeDiff, Nat.reduceMul, Nat.reduceSub, Int.reduceLE, Int.reduceLT, Int.reduceToNat, Int.reducePow, Int.reduceEq]; refine WRun.done _ _ (hK _ _ ?_); clear hK)))
      refine W_ret ?_
      simp only [go_sem, Nat.reduceEqDiff, Nat.reduceLT, Nat.reduceAdd, Nat.reduceLeDiff, Nat.reduceMul, Nat.reduceSub, Int.reduceLE, Int.reduceLT, Int.reduceToNat, Int.reducePow, Int.reduceEq, typF, enc, eStr]
      exact ⟨_, rfl⟩
  | d + 1, hd, [], hok, hl => by
    refine pcalls_of (by simp only [V.closed, V.closedL, enc_closed]; rfl) fun M => ?_
    refine acalls_enter [.cell 4 30, .tmp 5] 74 Tryd.func11 rfl rfl rfl (by simp) ?_
    (repeat (first | refine W_seq ?_ | refine W_block ?_ | refine W_blk ?_ | refine W_skip ?_ | (refine W_region [] (by rfl) fun K hK => ?_; simp only [go_sem, Nat.reduceEqDiff, Nat.reduceLT, Nat.reduceAdd, Nat.reduceLeDiff, Nat.reduceMul, Nat.reduceSub, Int.reduceLE, Int.reduceLT, Int.reduceToNat, Int.reducePow, Int.reduceEq]; refine WRun.done _ _ (hK _ _ ?_); clear hK)))
    refine W_cond_true (by simp only [go_sem, Nat.reduceEqDiff, Nat.reduceLT, Nat.reduceAdd, Nat.reduceLeDiff, Nat.reduceMul, Nat.reduceSub, Int.reduceLE, Int.reduceLT, Int.reduceToNat, Int.reducePow, Int.reduceEq]) ?_
    (repeat (first | refine W_seq ?_ | refine W_block ?_ | refine W_blk ?_ | refine W_skip ?_ | (refine W_region [] (by rfl) fun K hK => ?_; simp only [go_sem, Nat.reduceEqDiff, Nat.reduceLT, Nat.reduceAdd, Nat.reduceLeDiff, Nat.reduceMul, Nat.reduceSub, Int.reduceLE, Int.reduceLT, Int.reduceToNat, Int.reducePow, Int.reduceEq]; refine WRun.done _ _ (hK _ _ ?_); clear hK)))
    refine W_ret ?_
    simp only [go_sem, Nat.reduceEqDiff, Nat.reduceLT, Nat.reduceAdd, Nat.reduceLeDiff, Nat.reduceMul, Nat.reduceSub, Int.reduceLE, Int.reduceLT, Int.reduceToNat, Int.reducePow, Int.reduceEq, typF, enc, eStr]
    exact ⟨_, rfl⟩
  | d + 1, hd, x :: l, hok, hl => by
    refine pcalls_of (by simp only [V.closed, V.closedL, enc_closed]; rfl) fun M => ?_
    refine acalls_enter [.cell 4 30, .tmp 5] 74 Tryd.func11 rfl rfl rfl (by simp) ?_
    obtain ⟨x1, x2, x3, x4⟩ := hok x (by simp)
    rw [List.length_cons] at hl
    have hl1 : ¬ (((l.length + 1 : Nat) : Int) = 0) := by omega
    have hd1 : ¬ ((12 : Int) < ((13 - (d + 1) : Nat) : Int)) := by omega
    have z0 : Int.toNat 0 = 0 := rfl
    (repeat (first | refine W_seq ?_ | refine W_block ?_ | refine W_blk ?_ | refine W_skip ?_ | (refine W_region [] (by rfl) fun K hK => ?_; simp only [go_sem, Nat.reduceEqDiff, Nat.reduceLT, Nat.reduceAdd, Nat.reduceLeDiff, Nat.reduceMul, Nat.reduceSub, Int.reduceLE, Int.reduceLT, Int.reduceToNat, Int.reducePow, Int.reduceEq, hl1, hd1]; refine WRun.done _ _ (hK _ _ ?_); clear hK)))
    refine W_cond_false (by simp only [go_sem, Nat.reduceEqDiff, Nat.reduceLT, Nat.reduceAdd, Nat.reduceLeDiff, Nat.reduceMul, Nat.reduceSub, Int.reduceLE, Int.reduceLT, Int.reduceToNat, Int.reducePow, Int.reduceEq, hd1]) ?_
    (repeat (first | refine W_seq ?_ | refine W_block ?_ | refine W_blk ?_ | refine W_skip ?_ | (refine W_region [] (by rfl) fun K hK => ?_; simp only [go_sem, Nat.reduceEqDiff, Nat.reduceLT, Nat.reduceAdd, Nat.reduceLeDiff, Nat.reduceMul, Nat.reduceSub, Int.reduceLE, Int.reduceLT, Int.reduceToNat, Int.reducePow, Int.reduceEq, z0]; refine WRun.done _ _ (hK _ _ ?_); clear hK)))
    by_cases hv : 0 ≤ x.v
    · refine W_cond_true (by simp only [go_sem, Nat.reduceEqDiff, Nat.reduceLT, Nat.reduceAdd, Nat.reduceLeDiff, Nat.reduceMul, Nat.reduceSub, Int.reduceLE, Int.reduceLT, Int.reduceToNat, Int.reducePow, Int.reduceEq, hv]) ?_
      obtain ⟨k, hk⟩ : ∃ k : Nat, x.v = k := ⟨x.v.toNat, by omega⟩
      have hm : x.v.tmod 6 = ((k % 6 : Nat) : Int) := by rw [hk]; rfl
      have hw : IntKind.i64.wrap ((k % 6 : Nat) : Int) = ((k % 6 : Nat) : Int) := wrapI _ (by omega) (by omega)
      (repeat (first | refine W_seq ?_ | refine W_block ?_ | refine W_blk ?_ | refine W_skip ?_ | (refine W_region [] (by rfl) fun K hK => ?_; simp only [go_sem, Nat.reduceEqDiff, Nat.reduceLT, Nat.reduceAdd, Nat.reduceLeDiff, Nat.reduceMul, Nat.reduceSub, Int.reduceLE, Int.reduceLT, Int.reduceToNat, Int.reducePow, Int.reduceEq, z0, hm, hw, ne_eq, not_false_eq_true]; refine WRun.done _ _ (hK _ _ ?_); clear hK)))
      refine W_ret ?_
      have e : typF (d + 1) (x :: l) = (.var (k % 6), 1) := by rw [typF, if_pos hv, hk]; simp
      simp only [go_sem, Nat.reduceEqDiff, Nat.reduceLT, Nat.reduceAdd, Nat.reduceLeDiff, Nat.reduceMul, Nat.reduceSub, Int.reduceLE, Int.reduceLT, Int.reduceToNat, Int.reducePow, Int.reduceEq, e, enc, eStr]
      exact ⟨rfl, _, rfl⟩
    · refine W_cond_false (by simp only [go_sem, Nat.reduceEqDiff, Nat.reduceLT, Nat.reduceAdd, Nat.reduceLeDiff, Nat.reduceMul, Nat.reduceSub, Int.reduceLE, Int.reduceLT, Int.reduceToNat, Int.reducePow, Int.reduceEq, hv]) ?_
      have hm1 : ((x.n : Nat) : Int).tmod 4 = ((x.n % 4 : Nat) : Int) := rfl
      have hm2 : ((x.a : Nat) : Int).tmod 3 = ((x.a % 3 : Nat) : Int) := rfl
      have hw : IntKind.i64.wrap ((x.a % 3 : Nat) : Int) = ((x.a % 3 : Nat) : Int) := wrapI _ (by omega) (by omega)
      have hn4 := names4_at x.n
      unfold names4 at hn4
      (repeat (first | refine W_seq ?_ | refine W_block ?_ | refine W_blk ?_ | refine W_skip ?_))
      (refine W_region [] (by rfl) fun K hK => ?_; simp only [go_sem, Nat.reduceEqDiff, Nat.reduceLT, Nat.reduceAdd, Nat.reduceLeDiff, Nat.reduceMul, Nat.reduceSub, Int.reduceLE, Int.reduceLT, Int.reduceToNat, Int.reducePow, Int.reduceEq, z0, hm1, hn4, ne_eq, not_false_eq_true, Int.natCast_nonneg, Int.toNat_natCast])
      (refine WRun.done _ _ (hK _ _ ?_); clear hK)
      (repeat (first | refine W_seq ?_ | refine W_block ?_ | refine W_blk ?_ | refine W_skip ?_ | (refine W_region [] (by rfl) fun K hK => ?_; simp only [go_sem, Nat.reduceEqDiff, Nat.reduceLT, Nat.reduceAdd, Nat.reduceLeDiff, Nat.reduceMul, Nat.reduceSub, Int.reduceLE, Int.reduceLT, Int.reduceToNat, Int.reducePow, Int.reduceEq, z0, hm2, hw, ne_eq, not_false_eq_true]; refine WRun.done _ _ (hK _ _ ?_); clear hK)))
      obtain ⟨ys, hys⟩ : ∃ ys, ys = x :: l := ⟨_, rfl⟩
      have hysl : ys.length = l.length + 1 := by rw [hys, List.length_cons]
      have hyok : ∀ z ∈ ys, z.ok := by rw [hys]; exact hok
      have hxa : x.a % 3 ≤ 2 := by omega
      have hG : ∀ q, q ≤ 2 → _ := argsG_ok (typF_ok d) ys (by omega)
      have hx0 : Ext M (M ++ [AObj.cells [V.int 0, V.str ⟨#[]⟩, V.list Tag.full []]] ++ [AObj.cells [V.int (-1), V.str (nmF x.n), V.list Tag.full []]]) := ((Ext.refl M).app _).app _
      refine W_loop (α := Nat) (fun q F' M' => q ≤ x.a % 3 ∧ Ext M M' ∧ look F' 0 = .list .dull (ys.map encN) ∧ look F' 1 = V.int ((13 - (d + 1) : Nat) : Int) ∧ look F' 4 = .ptr M.length 0 ∧ look F' 6 = .ptr (M.length + 1) 0 ∧ look F' 7 = V.int ((argsG (typF d) ys q).2 : Int) ∧ look F' 44 = V.int ((x.a % 3 : Nat) : Int) ∧ look F' 45 = V.int q ∧
        (∃ a b c, M'[M.length]? = some (.cells [a, b, c])) ∧ ∃ tg, TgIn M.length tg M' ∧ M'[M.length + 1]? = some (.cells [V.int (-1), V.str (nmF x.n), .list tg (encL (argsG (typF d) ys q).1)]))
        (fun q => x.a % 3 - q) 0 ⟨Nat.zero_le _, hx0, ?_, ?_, ?_, ?_, ?_, ?_, ?_, ⟨V.int 0, V.str ⟨#[]⟩, V.list Tag.full [], at_app (at_snoc rfl)⟩, .full, .full _ _, at_snoc (by simp)⟩ ?_
      · simp only [go_sem, Nat.reduceEqDiff, Nat.reduceLT, Nat.reduceAdd, Nat.reduceLeDiff, Nat.reduceMul, Nat.reduceSub, Int.reduceLE, Int.reduceLT, Int.reduceToNat, Int.reducePow, Int.reduceEq]
        rw [hys]; rfl
      · simp only [go_sem, Nat.reduceEqDiff, Nat.reduceLT, Nat.reduceAdd, Nat.reduceLeDiff, Nat.reduceMul, Nat.reduceSub, Int.reduceLE, Int.reduceLT, Int.reduceToNat, Int.reducePow, Int.reduceEq]
      · simp only [go_sem, Nat.reduceEqDiff, Nat.reduceLT, Nat.reduceAdd, Nat.reduceLeDiff, Nat.reduceMul, Nat.reduceSub, Int.reduceLE, Int.reduceLT, Int.reduceToNat, Int.reducePow, Int.reduceEq]
      · simp only [go_sem, Nat.reduceEqDiff, Nat.reduceLT, Nat.reduceAdd, Nat.reduceLeDiff, Nat.reduceMul, Nat.reduceSub, Int.reduceLE, Int.reduceLT, Int.reduceToNat, Int.reducePow, Int.reduceEq]
      · simp only [go_sem, Nat.reduceEqDiff, Nat.reduceLT, Nat.reduceAdd, Nat.reduceLeDiff, Nat.reduceMul, Nat.reduceSub, Int.reduceLE, Int.reduceLT, Int.reduceToNat, Int.reducePow, Int.reduceEq]
        rfl
      · simp only [go_sem, Nat.reduceEqDiff, Nat.reduceLT, Nat.reduceAdd, Nat.reduceLeDiff, Nat.reduceMul, Nat.reduceSub, Int.reduceLE, Int.reduceLT, Int.reduceToNat, Int.reducePow, Int.reduceEq]
      · simp only [go_sem, Nat.reduceEqDiff, Nat.reduceLT, Nat.reduceAdd, Nat.reduceLeDiff, Nat.reduceMul, Nat.reduceSub, Int.reduceLE, Int.reduceLT, Int.reduceToNat, Int.reducePow, Int.reduceEq]
      rintro q F' M' ⟨hq, hx, f0, f1, f4, f6, f7, f44, f45, ⟨a, b, c, h4⟩, tg, htg, h6⟩
      obtain ⟨g1, g2, g3, g4, g5⟩ := hG q (by omega)
      by_cases hlt : q < x.a % 3
      · have hlt' : (q : Int) < ((x.a % 3 : Nat) : Int) := by omega
        have hw1 : IntKind.i64.wrap ((q : Int) + 1) = ((q + 1 : Nat) : Int) := by rw [wrapI _ (by omega) (by omega)]; omega
        obtain ⟨at_, hat⟩ : ∃ at_, at_ = (argsG (typF d) ys q).2 := ⟨_, rfl⟩
        rw [← hat] at g1 g2 g3 f7
        have hmin : ¬ ((ys.length : Nat) : Int) < (at_ : Int) := by omega
        have hle0 : (at_ : Int) ≤ ((ys.length : Nat) : Int) := by omega
        have hd2 : IntKind.i64.wrap (((13 - (d + 1) : Nat) : Int) + 1) = ((13 - d : Nat) : Int) := by rw [wrapI _ (by omega) (by omega)]; omega
        have htk : List.take (ys.length - at_) (List.drop at_ (ys.map encN)) = (ys.drop at_).map encN := by
          rw [← List.map_drop, ← List.map_take, List.take_of_length_le (by simp)]
        have hcast : ((ys.length : Nat) : Int).toNat = ys.length := Int.toNat_natCast _
        (repeat (first | refine W_seq ?_ | refine W_block ?_ | refine W_blk ?_ | refine W_skip ?_ | (refine W_region [] (by rfl) fun K hK => ?_; simp only [go_sem, Nat.reduceEqDiff, Nat.reduceLT, Nat.reduceAdd, Nat.reduceLeDiff, Nat.reduceMul, Nat.reduceSub, Int.reduceLE, Int.reduceLT, Int.reduceToNat, Int.reducePow, Int.reduceEq, f44, f45, hlt']; refine WRun.done _ _ (hK _ _ ?_); clear hK)))
        refine W_cond_true (by simp only [go_sem, Nat.reduceEqDiff, Nat.reduceLT, Nat.reduceAdd, Nat.reduceLeDiff, Nat.reduceMul, Nat.reduceSub, Int.reduceLE, Int.reduceLT, Int.reduceToNat, Int.reducePow, Int.reduceEq]) ?_
        (repeat (first | refine W_seq ?_ | refine W_block ?_ | refine W_blk ?_ | refine W_skip ?_))
        (refine W_region [] (by rfl) fun K hK => ?_; simp only [go_sem, Nat.reduceEqDiff, Nat.reduceLT, Nat.reduceAdd, Nat.reduceLeDiff, Nat.reduceMul, Nat.reduceSub, Int.reduceLE, Int.reduceLT, Int.reduceToNat, Int.reducePow, Int.reduceEq, f0, f1, f7, hmin, hle0, hd2, encN_ok, Int.natCast_nonneg, Int.toNat_natCast, Int.le_refl, htk])
        refine PCalls.use (typ_ok d (by omega) (ys.drop at_) (fun z hz => hyok z (List.mem_of_mem_drop hz)) (by rw [List.length_drop]; omega)) (by simp only [go_sem, Nat.reduceEqDiff, Nat.reduceLT, Nat.reduceAdd, Nat.reduceLeDiff, Nat.reduceMul, Nat.reduceSub, Int.reduceLE, Int.reduceLT, Int.reduceToNat, Int.reducePow, Int.reduceEq]) ?_
        simp only [go_sem, Nat.reduceEqDiff, Nat.reduceLT, Nat.reduceAdd, Nat.reduceLeDiff, Nat.reduceMul, Nat.reduceSub, Int.reduceLE, Int.reduceLT, Int.reduceToNat, Int.reducePow, Int.reduceEq]
        (refine WRun.done _ _ (hK _ _ ?_); clear hK)
        have hT := typF_ok d (ys.drop at_)
        have hstep : argsG (typF d) ys (q + 1) = ((argsG (typF d) ys q).1 ++ [(typF d (ys.drop at_)).1], at_ + (typF d (ys.drop at_)).2) := by
          rw [argsG, ← hat, Nat.min_eq_left g1]
        have hb1 := hT.le
        rw [List.length_drop] at hb1
        obtain ⟨X, hX⟩ : ∃ X, X = typF d (ys.drop at_) := ⟨_, rfl⟩
        rw [← hX] at hT hstep hb1 ⊢
        have hle : (argsG (typF d) ys q).1.length ≤ 1073741823 := by omega
        have hw2 : IntKind.i64.wrap ((at_ : Int) + (X.2 : Int)) = ((at_ + X.2 : Nat) : Int) := by rw [wrapI _ (by omega) (by omega)]; omega
        have h63 := at_app (Y := [AObj.cells (tcells X.1)]) h6
        have h83 : (M' ++ [AObj.cells (tcells X.1)])[M'.length]? = some (AObj.cells (tcells X.1)) := at_snoc rfl
        have htg3 := htg.app [AObj.cells (tcells X.1)]
        have hx3 := hx.app [AObj.cells (tcells X.1)]
        have h43 := at_app (Y := [AObj.cells (tcells X.1)]) h4
        have hLM := (List.getElem?_eq_some_iff.1 h6).1
        have hlen3 : (M' ++ [AObj.cells (tcells X.1)]).length = M'.length + 1 := by simp
        generalize hM3 : M' ++ [AObj.cells (tcells X.1)] = M3 at h63 h83 htg3 hx3 h43 hlen3 ⊢
        have ho4 := at_app (Y := [AObj.tail]) (dropTag_at htg3 h63)
        (repeat (first | refine W_seq ?_ | refine W_block ?_ | refine W_blk ?_ | refine W_skip ?_))
        (refine W_region [] (by rfl) fun K hK => ?_; simp only [go_sem, Nat.reduceEqDiff, Nat.reduceLT, Nat.reduceAdd, Nat.reduceLeDiff, Nat.reduceMul, Nat.reduceSub, Int.reduceLE, Int.reduceLT, Int.reduceToNat, Int.reducePow, Int.reduceEq, f6, h63, h83, htg3.1, encL_ok', hle, ho4])
        (refine WRun.done _ _ (hK _ _ ?_); clear hK)
        (repeat (first | refine W_seq ?_ | refine W_block ?_ | refine W_blk ?_ | refine W_skip ?_ | (refine W_region [] (by rfl) fun K hK => ?_; simp only [go_sem, Nat.reduceEqDiff, Nat.reduceLT, Nat.reduceAdd, Nat.reduceLeDiff, Nat.reduceMul, Nat.reduceSub, Int.reduceLE, Int.reduceLT, Int.reduceToNat, Int.reducePow, Int.reduceEq, f7, hw2, f45, hw1]; refine WRun.done _ _ (hK _ _ ?_); clear hK)))
        rw [← enc_eq X.1]
        have hx5 := ((dropTag_ext hx3 htg3).app [AObj.tail]).set (k := M.length + 1) (by omega) (.cells [V.int (-1), V.str (nmF x.n), .list (.own M3.length) (encL (argsG (typF d) ys q).1 ++ [enc X.1])])
        refine W_stop ⟨q + 1, ⟨hlt, hx5, ?_, ?_, ?_, ?_, ?_, ?_, ?_, ⟨a, b, c, ?_⟩, .own M3.length, ?_, ?_⟩, by omega⟩
        · simp only [go_sem, Nat.reduceEqDiff, Nat.reduceLT, Nat.reduceAdd, Nat.reduceLeDiff, Nat.reduceMul, Nat.reduceSub, Int.reduceLE, Int.reduceLT, Int.reduceToNat, Int.reducePow, Int.reduceEq, f0]
        · simp only [go_sem, Nat.reduceEqDiff, Nat.reduceLT, Nat.reduceAdd, Nat.reduceLeDiff, Nat.reduceMul, Nat.reduceSub, Int.reduceLE, Int.reduceLT, Int.reduceToNat, Int.reducePow, Int.reduceEq, f1]
        · simp only [go_sem, Nat.reduceEqDiff, Nat.reduceLT, Nat.reduceAdd, Nat.reduceLeDiff, Nat.reduceMul, Nat.reduceSub, Int.reduceLE, Int.reduceLT, Int.reduceToNat, Int.reducePow, Int.reduceEq, f4]
        · simp only [go_sem, Nat.reduceEqDiff, Nat.reduceLT, Nat.reduceAdd, Nat.reduceLeDiff, Nat.reduceMul, Nat.reduceSub, Int.reduceLE, Int.reduceLT, Int.reduceToNat, Int.reducePow, Int.reduceEq, f6]
        · simp only [go_sem, Nat.reduceEqDiff, Nat.reduceLT, Nat.reduceAdd, Nat.reduceLeDiff, Nat.reduceMul, Nat.reduceSub, Int.reduceLE, Int.reduceLT, Int.reduceToNat, Int.reducePow, Int.reduceEq, hstep]
        · simp only [go_sem, Nat.reduceEqDiff, Nat.reduceLT, Nat.reduceAdd, Nat.reduceLeDiff, Nat.reduceMul, Nat.reduceSub, Int.reduceLE, Int.reduceLT, Int.reduceToNat, Int.reducePow, Int.reduceEq, f44]
        · simp only [go_sem, Nat.reduceEqDiff, Nat.reduceLT, Nat.reduceAdd, Nat.reduceLeDiff, Nat.reduceMul, Nat.reduceSub, Int.reduceLE, Int.reduceLT, Int.reduceToNat, Int.reducePow, Int.reduceEq]
        · rw [List.getElem?_set_ne (by omega)]; exact at_app (dropTag_at htg3 h43)
        · have := (TgIn.new M.length (dropTag tg M3) (by rw [dropTag_length]; exact hx3.1)).set (cs' := [V.int (-1), V.str (nmF x.n), .list (.own M3.length) (encL (argsG (typF d) ys q).1 ++ [enc X.1])]) ho4
          rw [dropTag_length] at this
          exact this
        · rw [List.getElem?_set_self (List.getElem?_eq_some_iff.1 ho4).1, hstep]
          simp [encL_append, encL_cons, encL]
      · have hii : q = x.a % 3 := by omega
        subst hii
        have hmin : ¬ ((ys.length : Nat) : Int) < ((argsG (typF d) ys (x.a % 3)).2 : Int) := by omega
        (repeat (first | refine W_seq ?_ | refine W_block ?_ | refine W_blk ?_ | refine W_skip ?_ | (refine W_region [] (by rfl) fun K hK => ?_; simp only [go_sem, Nat.reduceEqDiff, Nat.reduceLT, Nat.reduceAdd, Nat.reduceLeDiff, Nat.reduceMul, Nat.reduceSub, Int.reduceLE, Int.reduceLT, Int.reduceToNat, Int.reducePow, Int.reduceEq, f44, f45, Int.lt_irrefl]; refine WRun.done _ _ (hK _ _ ?_); clear hK)))
        refine W_cond_false (by simp only [go_sem, Nat.reduceEqDiff, Nat.reduceLT, Nat.reduceAdd, Nat.reduceLeDiff, Nat.reduceMul, Nat.reduceSub, Int.reduceLE, Int.reduceLT, Int.reduceToNat, Int.reducePow, Int.reduceEq]) ?_
        refine W_exit (Qof_code (Qof_stop (Qof_blk_same ?_)))
        (repeat (first | refine W_seq ?_ | refine W_block ?_ | refine W_blk ?_ | refine W_skip ?_ | (refine W_region [] (by rfl) fun K hK => ?_; simp only [go_sem, Nat.reduceEqDiff, Nat.reduceLT, Nat.reduceAdd, Nat.reduceLeDiff, Nat.reduceMul, Nat.reduceSub, Int.reduceLE, Int.reduceLT, Int.reduceToNat, Int.reducePow, Int.reduceEq, f0, f4, f6, f7, h4, h6, hmin]; refine WRun.done _ _ (hK _ _ ?_); clear hK)))
        have h5 := List.getElem?_set_self (a := AObj.cells [V.int (-1), V.str (nmF x.n), V.list tg (encL (argsG (typF d) ys (x.a % 3)).1)]) (List.getElem?_eq_some_iff.1 h4).1
        have h7 := (hx.set (k := M.length) (by omega) (.cells [V.int (-1), V.str (nmF x.n), V.list tg (encL (argsG (typF d) ys (x.a % 3)).1)])).out
        refine W_ret ?_
        have e : typF (d + 1) (x :: l) = (.app (nmF x.n) (argsG (typF d) ys (x.a % 3)).1, (argsG (typF d) ys (x.a % 3)).2) := by
          rw [typF, if_neg hv, ← hys, Nat.min_eq_left (by omega)]
        simp only [go_sem, Nat.reduceEqDiff, Nat.reduceLT, Nat.reduceAdd, Nat.reduceLeDiff, Nat.reduceMul, Nat.reduceSub, Int.reduceLE, Int.reduceLT, Int.reduceToNat, Int.reducePow, Int.reduceEq, f4, h5, e]
        exact ⟨rfl, h7⟩
end Go.Ax

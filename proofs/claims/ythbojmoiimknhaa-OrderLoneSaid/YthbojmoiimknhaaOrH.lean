import Derived.Test.YthbojmoiimknhaaOrG
import Derived.Test.YthbojmoiimknhaaOrZ
import Derived.Test.YthbojmoiimknhaaAx12
set_option linter.unusedSimpArgs false
set_option linter.unusedVariables false
namespace Go.Ax
open Go.Proofs Go.Ord
noncomputable def body30 : Code := Try.f30.body.getD .skip

/-- What is handed over: any numbers. -/
structure ToI (M0 : AMem) (B : Nat) (x : V) (to : List (List Int)) (rs : List V) : Prop where
  len : rs.length = to.length
  rows : ∀ (i : Nat) (l : List Int), to[i]? = some l → ∃ tg : Tag, rs[i]? = some (V.list tg (l.map V.int))
  x : (∃ tg : Tag, x = .list tg rs) ∨ ∃ j, j < B ∧ x = .arr j 0 to.length 1 ∧ M0[j]? = some (.cells rs)

def okNum (n : Nat) (k : Int) : Bool := decide (0 ≤ k) && decide (k < (n : Int))
def okTo (to : List (List Int)) : Bool := to.all fun l => l.all (okNum to.length)
def toN (to : List (List Int)) : List (List Nat) := to.map fun l => l.map Int.toNat

theorem nats_toN {n : Nat} {l : List Int} (h : l.all (okNum n) = true) : nats (l.map Int.toNat) = l.map V.int := by
  rw [nats, List.map_map]
  apply List.map_congr_left
  intro k hk
  have := List.all_eq_true.1 h k hk
  simp [okNum] at this
  show V.int ((k.toNat : Nat) : Int) = V.int k
  rw [Int.toNat_of_nonneg this.1]

theorem toN_len (to : List (List Int)) : (toN to).length = to.length := by simp [toN]
theorem adj_toN (to : List (List Int)) (i : Nat) : adj (toN to) i = ((to[i]?).getD []).map Int.toNat := by
  simp only [adj, toN, List.getElem?_map]
  cases to[i]? <;> simp

theorem toN_good {to : List (List Int)} (h : okTo to = true) : Good (toN to) := by
  intro i k hk
  rw [adj_toN] at hk
  rw [toN_len]
  cases hi : to[i]? with
  | none => rw [hi] at hk; simp at hk
  | some l =>
    rw [hi] at hk
    obtain ⟨z, hz, rfl⟩ := List.mem_map.1 hk
    have := List.all_eq_true.1 (List.all_eq_true.1 h l (List.mem_of_getElem? hi)) z hz
    simp [okNum] at this
    omega

theorem ToI.toAt {M0 : AMem} {B : Nat} {x : V} {to : List (List Int)} {rs : List V} (h : ToI M0 B x to rs) (hok : okTo to = true) : ToAt M0 B x (toN to) rs := by
  refine ⟨by rw [toN_len]; exact h.len, fun i l hi => ?_, ?_⟩
  · simp only [toN, List.getElem?_map] at hi
    obtain ⟨l0, h0, rfl⟩ := Option.map_eq_some_iff.1 hi
    obtain ⟨tg, h1⟩ := h.rows i l0 h0
    refine ⟨tg, ?_⟩
    have := nats_toN (List.all_eq_true.1 hok l0 (List.mem_of_getElem? h0))
    rw [h1, ← this]; rfl
  · rw [toN_len]; exact h.x

theorem ToI.grow {M0 M1 : AMem} {B B1 : Nat} {x : V} {to : List (List Int)} {rs : List V} (h : ToI M0 B x to rs) (hB : B ≤ B1) (hk : ∀ j, j < B → M1[j]? = M0[j]?) : ToI M1 B1 x to rs := by
  refine ⟨h.len, h.rows, ?_⟩
  rcases h.x with h1 | ⟨j, h1, h2, h3⟩
  · exact .inl h1
  · exact .inr ⟨j, by omega, h2, by rw [hk j h1]; exact h3⟩

theorem clo40_ok (k : Int) (c n : Nat) (M : AMem) (h : M[c]? = some (.cells [V.int n])) : ACalls Try.prog 40 [V.int k, .ptr c 0] M (fun r M' => r = V.bool (!okNum n k) ∧ M' = M) := by
  refine acalls_enter [.tmp 3] 11 Try.func40 rfl rfl rfl (by simp) ?_
  by_cases h0 : k < 0
  · (repeat (first | refine W_seq ?_ | refine W_block ?_ | refine W_blk ?_ | refine W_skip ?_ | (refine W_region [] (by rfl) fun K hK => ?_; simp only [go_sem, Nat.reduceEqDiff, Nat.reduceLT, Nat.reduceAdd, Nat.reduceLeDiff, Nat.reduceMul, Nat.reduceSub, Int.reduceLE, Int.reduceLT, Int.reduceToNat, Int.reducePow, Int.reduceEq, h0, h]; refine WRun.done _ _ (hK _ _ ?_); clear hK)))
    refine W_ret ?_
    simp only [go_sem, Nat.reduceEqDiff, Nat.reduceLT, Nat.reduceAdd, Nat.reduceLeDiff, Nat.reduceMul, Nat.reduceSub, Int.reduceLE, Int.reduceLT, Int.reduceToNat, Int.reducePow, Int.reduceEq]
    have : okNum n k = false := by simp [okNum]; omega
    simp [this]
  · by_cases h1 : (n : Int) ≤ k
    · (repeat (first | refine W_seq ?_ | refine W_block ?_ | refine W_blk ?_ | refine W_skip ?_ | (refine W_region [] (by rfl) fun K hK => ?_; simp only [go_sem, Nat.reduceEqDiff, Nat.reduceLT, Nat.reduceAdd, Nat.reduceLeDiff, Nat.reduceMul, Nat.reduceSub, Int.reduceLE, Int.reduceLT, Int.reduceToNat, Int.reducePow, Int.reduceEq, h0, h, h1]; refine WRun.done _ _ (hK _ _ ?_); clear hK)))
      refine W_ret ?_
      simp only [go_sem, Nat.reduceEqDiff, Nat.reduceLT, Nat.reduceAdd, Nat.reduceLeDiff, Nat.reduceMul, Nat.reduceSub, Int.reduceLE, Int.reduceLT, Int.reduceToNat, Int.reducePow, Int.reduceEq]
      have : okNum n k = false := by simp [okNum]; omega
      simp [this]
    · (repeat (first | refine W_seq ?_ | refine W_block ?_ | refine W_blk ?_ | refine W_skip ?_ | (refine W_region [] (by rfl) fun K hK => ?_; simp only [go_sem, Nat.reduceEqDiff, Nat.reduceLT, Nat.reduceAdd, Nat.reduceLeDiff, Nat.reduceMul, Nat.reduceSub, Int.reduceLE, Int.reduceLT, Int.reduceToNat, Int.reducePow, Int.reduceEq, h0, h, h1]; refine WRun.done _ _ (hK _ _ ?_); clear hK)))
      refine W_ret ?_
      simp only [go_sem, Nat.reduceEqDiff, Nat.reduceLT, Nat.reduceAdd, Nat.reduceLeDiff, Nat.reduceMul, Nat.reduceSub, Int.reduceLE, Int.reduceLT, Int.reduceToNat, Int.reducePow, Int.reduceEq]
      have : okNum n k = true := by simp [okNum]; omega
      simp [this]

theorem groups_r4 {Ret : Fr → AMem → Prop} {k : List It} {M0 M : AMem} {B : Nat} {x : V} {to : List (List Int)} {rs : List V} (hto : ToI M0 B x to rs) (hkeep : ∀ j, j < B → M[j]? = M0[j]?) (i : Nat) (row : List Int) (hr : to[i]? = some row)
    (F : Fr) (f11 : look F 11 = x) (f13 : look F 13 = V.int i)
    (hk : ∀ F' tg, (∀ t, t ≠ 15 → t ≠ 16 → t ≠ 6 → look F' t = look F t) → look F' 6 = .list tg (row.map V.int) → W Try.prog 50 Ret k F' M) :
    W Try.prog 50 Ret (.code (part [1,1,0,1,1,1,1,1,0,1,0] body30) :: k) F M := by
  obtain ⟨tg, hrow⟩ := hto.rows i row hr
  have hi := (List.getElem?_eq_some_iff.1 hr).1
  have hlt : (i : Int) < (to.length : Int) := by omega
  have hlt2 : (i : Int) < (rs.length : Int) := by rw [hto.len]; exact hlt
  rcases hto.x with ⟨tg2, rfl⟩ | ⟨j, hj, rfl, hcs⟩
  · (refine W_region [] (by rfl) fun K hK => ?_; simp only [go_sem, Nat.reduceEqDiff, Nat.reduceLT, Nat.reduceAdd, Nat.reduceLeDiff, Nat.reduceMul, Nat.reduceSub, Int.reduceLE, Int.reduceLT, Int.reduceToNat, Int.reducePow, Int.reduceEq, f11, f13, hlt2, hrow, Nat.zero_add, Int.natCast_nonneg, Int.toNat_natCast, List.head?_drop])
    (refine WRun.done _ _ (hK _ _ ?_); clear hK)
    refine hk _ tg ?_ ?_
    · intro t h1 h2 h3
      simp only [go_sem, Nat.reduceEqDiff, Nat.reduceLT, Nat.reduceAdd, Nat.reduceLeDiff, Nat.reduceMul, Nat.reduceSub, Int.reduceLE, Int.reduceLT, Int.reduceToNat, Int.reducePow, Int.reduceEq, h1, h2, h3, if_false]
    · simp only [go_sem, Nat.reduceEqDiff, Nat.reduceLT, Nat.reduceAdd, Nat.reduceLeDiff, Nat.reduceMul, Nat.reduceSub, Int.reduceLE, Int.reduceLT, Int.reduceToNat, Int.reducePow, Int.reduceEq]
  · have hcs2 := hkeep j hj
    rw [hcs] at hcs2
    (refine W_region [] (by rfl) fun K hK => ?_; simp only [go_sem, Nat.reduceEqDiff, Nat.reduceLT, Nat.reduceAdd, Nat.reduceLeDiff, Nat.reduceMul, Nat.reduceSub, Int.reduceLE, Int.reduceLT, Int.reduceToNat, Int.reducePow, Int.reduceEq, f11, f13, hlt, hrow, hcs2, Nat.zero_add, Int.natCast_nonneg, Int.toNat_natCast, List.head?_drop])
    (refine WRun.done _ _ (hK _ _ ?_); clear hK)
    refine hk _ tg ?_ ?_
    · intro t h1 h2 h3
      simp only [go_sem, Nat.reduceEqDiff, Nat.reduceLT, Nat.reduceAdd, Nat.reduceLeDiff, Nat.reduceMul, Nat.reduceSub, Int.reduceLE, Int.reduceLT, Int.reduceToNat, Int.reducePow, Int.reduceEq, h1, h2, h3, if_false]
    · simp only [go_sem, Nat.reduceEqDiff, Nat.reduceLT, Nat.reduceAdd, Nat.reduceLeDiff, Nat.reduceMul, Nat.reduceSub, Int.reduceLE, Int.reduceLT, Int.reduceToNat, Int.reducePow, Int.reduceEq]
end Go.Ax

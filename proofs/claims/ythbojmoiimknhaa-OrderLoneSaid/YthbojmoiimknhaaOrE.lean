import Derived.Test.YthbojmoiimknhaaOrD
import Derived.Test.YthbojmoiimknhaaOrN
set_option linter.unusedSimpArgs false
set_option linter.unusedVariables false
namespace Go.Ax
open Go.Proofs Go.Ord
noncomputable def body45 : Code := Try.f45.body.getD .skip

def nats (l : List Nat) : List V := l.map fun k : Nat => V.int (k : Int)
theorem nats_at {l : List Nat} {i k : Nat} (h : l[i]? = some k) : (nats l)[i]? = some (V.int (k : Int)) := by rw [nats, List.getElem?_map, h]; rfl
theorem nats_len (l : List Nat) : (nats l).length = l.length := by simp [nats]

theorem ready_r4 {Ret : Fr → AMem → Prop} {k : List It} {M0 M : AMem} {B n : Nat} {x : V} {d : Ids} {s : TS} {sk : Option Nat} {to : List (List Nat)} {rs : List V} (h : VisAt M0 B n x d s sk M) (hto : ToAt M0 B x to rs) (hn : n = to.length) (i : Nat) (row : List Nat) (hr : to[i]? = some row)
    (F : Fr) (f0 : look F 0 = .ptr d.v 0) (f8 : look F 8 = V.int i)
    (hk : ∀ F' tg, (∀ t, t ≠ 17 → t ≠ 18 → t ≠ 19 → t ≠ 20 → t ≠ 21 → t ≠ 22 → t ≠ 23 → t ≠ 24 → t ≠ 25 → look F' t = look F t) → look F' 23 = .list tg (nats row) → look F' 24 = V.int row.length → look F' 25 = V.int 0 → W Try.prog 59 Ret k F' M) :
    W Try.prog 59 Ret (.code (part [1,0,1,1,1,1,1,0,1,1,0] body45) :: k) F M := by
  obtain ⟨tg, hrow⟩ := hto.rows i row hr
  have hi := (List.getElem?_eq_some_iff.1 hr).1
  have hlt : (i : Int) < (to.length : Int) := by omega
  have hlt2 : (i : Int) < (rs.length : Int) := by rw [hto.len]; exact hlt
  have hv := h.v
  rcases hto.x with ⟨tg2, rfl⟩ | ⟨j, hj, rfl, hcs⟩
  · (refine W_region [] (by rfl) fun K hK => ?_; simp only [go_sem, Nat.reduceEqDiff, Nat.reduceLT, Nat.reduceAdd, Nat.reduceLeDiff, Nat.reduceMul, Nat.reduceSub, Int.reduceLE, Int.reduceLT, Int.reduceToNat, Int.reducePow, Int.reduceEq, f0, f8, hv, hlt2, hrow, Nat.zero_add, Int.natCast_nonneg, Int.toNat_natCast, List.head?_drop])
    (refine WRun.done _ _ (hK _ _ ?_); clear hK)
    refine hk _ tg ?_ ?_ ?_ ?_
    · intro t h1 h2 h3 h4 h5 h6 h7 h8 h9
      simp only [go_sem, Nat.reduceEqDiff, Nat.reduceLT, Nat.reduceAdd, Nat.reduceLeDiff, Nat.reduceMul, Nat.reduceSub, Int.reduceLE, Int.reduceLT, Int.reduceToNat, Int.reducePow, Int.reduceEq, h1, h2, h3, h4, h5, h6, h7, h8, h9, if_false]
    · simp only [go_sem, Nat.reduceEqDiff, Nat.reduceLT, Nat.reduceAdd, Nat.reduceLeDiff, Nat.reduceMul, Nat.reduceSub, Int.reduceLE, Int.reduceLT, Int.reduceToNat, Int.reducePow, Int.reduceEq, nats]
    · simp only [go_sem, Nat.reduceEqDiff, Nat.reduceLT, Nat.reduceAdd, Nat.reduceLeDiff, Nat.reduceMul, Nat.reduceSub, Int.reduceLE, Int.reduceLT, Int.reduceToNat, Int.reducePow, Int.reduceEq]
    · simp only [go_sem, Nat.reduceEqDiff, Nat.reduceLT, Nat.reduceAdd, Nat.reduceLeDiff, Nat.reduceMul, Nat.reduceSub, Int.reduceLE, Int.reduceLT, Int.reduceToNat, Int.reducePow, Int.reduceEq]
  · have hcs2 := h.keep j hj
    rw [hcs] at hcs2
    (refine W_region [] (by rfl) fun K hK => ?_; simp only [go_sem, Nat.reduceEqDiff, Nat.reduceLT, Nat.reduceAdd, Nat.reduceLeDiff, Nat.reduceMul, Nat.reduceSub, Int.reduceLE, Int.reduceLT, Int.reduceToNat, Int.reducePow, Int.reduceEq, f0, f8, hv, hlt, hrow, hcs2, Nat.zero_add, Int.natCast_nonneg, Int.toNat_natCast, List.head?_drop])
    (refine WRun.done _ _ (hK _ _ ?_); clear hK)
    refine hk _ tg ?_ ?_ ?_ ?_
    · intro t h1 h2 h3 h4 h5 h6 h7 h8 h9
      simp only [go_sem, Nat.reduceEqDiff, Nat.reduceLT, Nat.reduceAdd, Nat.reduceLeDiff, Nat.reduceMul, Nat.reduceSub, Int.reduceLE, Int.reduceLT, Int.reduceToNat, Int.reducePow, Int.reduceEq, h1, h2, h3, h4, h5, h6, h7, h8, h9, if_false]
    · simp only [go_sem, Nat.reduceEqDiff, Nat.reduceLT, Nat.reduceAdd, Nat.reduceLeDiff, Nat.reduceMul, Nat.reduceSub, Int.reduceLE, Int.reduceLT, Int.reduceToNat, Int.reducePow, Int.reduceEq, nats]
    · simp only [go_sem, Nat.reduceEqDiff, Nat.reduceLT, Nat.reduceAdd, Nat.reduceLeDiff, Nat.reduceMul, Nat.reduceSub, Int.reduceLE, Int.reduceLT, Int.reduceToNat, Int.reducePow, Int.reduceEq]
    · simp only [go_sem, Nat.reduceEqDiff, Nat.reduceLT, Nat.reduceAdd, Nat.reduceLeDiff, Nat.reduceMul, Nat.reduceSub, Int.reduceLE, Int.reduceLT, Int.reduceToNat, Int.reducePow, Int.reduceEq]

/-- ready: what it answers. -/
theorem ready_ok {M0 M : AMem} {B n : Nat} {x : V} {d : Ids} {s : TS} {sk : Option Nat} {to : List (List Nat)} {rs : List V} (h : VisAt M0 B n x d s sk M) (hto : ToAt M0 B x to rs) (hn : n = to.length) (hgood : ∀ i, ∀ k ∈ adj to i, k < n) (hrl : ∀ i, (adj to i).length ≤ 9223372036854775807) (G : Nat) (hG : ∀ k, k < n → s.grp k < G)
    (tg : Tag) (ls : List Nat) (hls : ∀ a ∈ ls, a < n) (hll : ls.length ≤ 1000000) (dn : Nat) (df : Nat → Bool) (hdn : M[dn]? = some (.cells (cellsB G df))) :
    ACalls Try.prog 45 [.ptr d.v 0, .list tg (nats ls), .arr dn 0 G 1] M (fun r M' => M' = M ∧ ∃ b, r = V.bool b ∧ (b = true ↔ ∀ a ∈ ls, ∀ k ∈ adj to a, s.grp k = s.grp a ∨ df (s.grp k) = true)) := by
  refine acalls_enter [.tmp 6] 59 Try.func45 rfl rfl rfl (by simp) ?_
  have hv := h.v
  have hgr := h.gr
  (repeat (first | refine W_seq ?_ | refine W_block ?_ | refine W_blk ?_ | refine W_skip ?_))
  (refine W_region [] (by rfl) fun K hK => ?_; simp only [go_sem, Nat.reduceEqDiff, Nat.reduceLT, Nat.reduceAdd, Nat.reduceLeDiff, Nat.reduceMul, Nat.reduceSub, Int.reduceLE, Int.reduceLT, Int.reduceToNat, Int.reducePow, Int.reduceEq])
  (refine WRun.done _ _ (hK _ _ ?_); clear hK)
  (repeat (first | refine W_seq ?_ | refine W_block ?_ | refine W_blk ?_ | refine W_skip ?_))
  (refine W_region [] (by rfl) fun K hK => ?_; simp only [go_sem, Nat.reduceEqDiff, Nat.reduceLT, Nat.reduceAdd, Nat.reduceLeDiff, Nat.reduceMul, Nat.reduceSub, Int.reduceLE, Int.reduceLT, Int.reduceToNat, Int.reducePow, Int.reduceEq, nats_len])
  (refine WRun.done _ _ (hK _ _ ?_); clear hK)
  (repeat (first | refine W_seq ?_ | refine W_block ?_ | refine W_blk ?_ | refine W_skip ?_))
  refine W_loop (α := Nat) (fun j F' M' => j ≤ ls.length ∧ M' = M ∧ look F' 0 = .ptr d.v 0 ∧ look F' 2 = .arr dn 0 G 1 ∧ look F' 11 = .list tg (nats ls) ∧ look F' 12 = V.int ls.length ∧ look F' 13 = V.int j ∧ ∀ a ∈ ls.take j, ∀ k ∈ adj to a, s.grp k = s.grp a ∨ df (s.grp k) = true)
    (fun j => ls.length - j) 0 ⟨Nat.zero_le _, rfl, ?_, ?_, ?_, ?_, ?_, by simp⟩ ?_
  · simp only [go_sem, Nat.reduceEqDiff, Nat.reduceLT, Nat.reduceAdd, Nat.reduceLeDiff, Nat.reduceMul, Nat.reduceSub, Int.reduceLE, Int.reduceLT, Int.reduceToNat, Int.reducePow, Int.reduceEq]
  · simp only [go_sem, Nat.reduceEqDiff, Nat.reduceLT, Nat.reduceAdd, Nat.reduceLeDiff, Nat.reduceMul, Nat.reduceSub, Int.reduceLE, Int.reduceLT, Int.reduceToNat, Int.reducePow, Int.reduceEq]
  · simp only [go_sem, Nat.reduceEqDiff, Nat.reduceLT, Nat.reduceAdd, Nat.reduceLeDiff, Nat.reduceMul, Nat.reduceSub, Int.reduceLE, Int.reduceLT, Int.reduceToNat, Int.reducePow, Int.reduceEq]
  · simp only [go_sem, Nat.reduceEqDiff, Nat.reduceLT, Nat.reduceAdd, Nat.reduceLeDiff, Nat.reduceMul, Nat.reduceSub, Int.reduceLE, Int.reduceLT, Int.reduceToNat, Int.reducePow, Int.reduceEq]
  · simp only [go_sem, Nat.reduceEqDiff, Nat.reduceLT, Nat.reduceAdd, Nat.reduceLeDiff, Nat.reduceMul, Nat.reduceSub, Int.reduceLE, Int.reduceLT, Int.reduceToNat, Int.reducePow, Int.reduceEq]
  rintro j F M' ⟨hj, rfl, f0, f2, f11, f12, f13, hso⟩
  by_cases hlt : j < ls.length
  · have hlt' : (j : Int) < (ls.length : Int) := by omega
    obtain ⟨a, ha⟩ : ∃ a, ls[j]? = some a := ⟨_, List.getElem?_eq_getElem hlt⟩
    have han := hls a (List.mem_of_getElem? ha)
    have hpa := nats_at ha
    have hw1 : IntKind.i64.wrap ((j : Int) + 1) = ((j + 1 : Nat) : Int) := by rw [wrapI _ (by omega) (by omega)]; omega
    have htk : ls.take (j + 1) = ls.take j ++ [a] := by rw [List.take_add_one, ha]; rfl
    obtain ⟨row, hrow⟩ : ∃ row, to[a]? = some row := ⟨_, List.getElem?_eq_getElem (by omega)⟩
    have hadj : adj to a = row := adj_of hrow
    have hrl1 : row.length ≤ 9223372036854775807 := by have := hrl a; rw [hadj] at this; exact this
    (repeat (first | refine W_seq ?_ | refine W_block ?_ | refine W_blk ?_ | refine W_skip ?_))
    (refine W_region [] (by rfl) fun K hK => ?_; simp only [go_sem, Nat.reduceEqDiff, Nat.reduceLT, Nat.reduceAdd, Nat.reduceLeDiff, Nat.reduceMul, Nat.reduceSub, Int.reduceLE, Int.reduceLT, Int.reduceToNat, Int.reducePow, Int.reduceEq, f12, f13, hlt'])
    (refine WRun.done _ _ (hK _ _ ?_); clear hK)
    (repeat (first | refine W_seq ?_ | refine W_block ?_ | refine W_blk ?_ | refine W_skip ?_))
    refine W_cond_true (by simp only [go_sem, Nat.reduceEqDiff, Nat.reduceLT, Nat.reduceAdd, Nat.reduceLeDiff, Nat.reduceMul, Nat.reduceSub, Int.reduceLE, Int.reduceLT, Int.reduceToNat, Int.reducePow, Int.reduceEq]) ?_
    (repeat (first | refine W_seq ?_ | refine W_block ?_ | refine W_blk ?_ | refine W_skip ?_))
    (refine W_region [] (by rfl) fun K hK => ?_; simp only [go_sem, Nat.reduceEqDiff, Nat.reduceLT, Nat.reduceAdd, Nat.reduceLeDiff, Nat.reduceMul, Nat.reduceSub, Int.reduceLE, Int.reduceLT, Int.reduceToNat, Int.reducePow, Int.reduceEq, f11, f13, hpa, nats_len, hlt', Int.natCast_nonneg, Int.toNat_natCast, List.head?_drop])
    (refine WRun.done _ _ (hK _ _ ?_); clear hK)
    (repeat (first | refine W_seq ?_ | refine W_block ?_ | refine W_blk ?_ | refine W_skip ?_))
    refine ready_r4 h hto hn a row hrow _ ?_ ?_ ?_
    · simp only [go_sem, Nat.reduceEqDiff, Nat.reduceLT, Nat.reduceAdd, Nat.reduceLeDiff, Nat.reduceMul, Nat.reduceSub, Int.reduceLE, Int.reduceLT, Int.reduceToNat, Int.reducePow, Int.reduceEq, f0]
    · simp only [go_sem, Nat.reduceEqDiff, Nat.reduceLT, Nat.reduceAdd, Nat.reduceLeDiff, Nat.reduceMul, Nat.reduceSub, Int.reduceLE, Int.reduceLT, Int.reduceToNat, Int.reducePow, Int.reduceEq]
    intro F2 tg2 hF g23 g24 g25
    have g0 := (hF 0 (by decide) (by decide) (by decide) (by decide) (by decide) (by decide) (by decide) (by decide) (by decide)).trans (by simp only [go_sem, Nat.reduceEqDiff, Nat.reduceLT, Nat.reduceAdd, Nat.reduceLeDiff, Nat.reduceMul, Nat.reduceSub, Int.reduceLE, Int.reduceLT, Int.reduceToNat, Int.reducePow, Int.reduceEq]; exact f0)
    have g2 := (hF 2 (by decide) (by decide) (by decide) (by decide) (by decide) (by decide) (by decide) (by decide) (by decide)).trans (by simp only [go_sem, Nat.reduceEqDiff, Nat.reduceLT, Nat.reduceAdd, Nat.reduceLeDiff, Nat.reduceMul, Nat.reduceSub, Int.reduceLE, Int.reduceLT, Int.reduceToNat, Int.reducePow, Int.reduceEq]; exact f2)
    have g8 := (hF 8 (by decide) (by decide) (by decide) (by decide) (by decide) (by decide) (by decide) (by decide) (by decide)).trans (by simp only [go_sem, Nat.reduceEqDiff, Nat.reduceLT, Nat.reduceAdd, Nat.reduceLeDiff, Nat.reduceMul, Nat.reduceSub, Int.reduceLE, Int.reduceLT, Int.reduceToNat, Int.reducePow, Int.reduceEq]; rfl)
    have g11 := (hF 11 (by decide) (by decide) (by decide) (by decide) (by decide) (by decide) (by decide) (by decide) (by decide)).trans (by simp only [go_sem, Nat.reduceEqDiff, Nat.reduceLT, Nat.reduceAdd, Nat.reduceLeDiff, Nat.reduceMul, Nat.reduceSub, Int.reduceLE, Int.reduceLT, Int.reduceToNat, Int.reducePow, Int.reduceEq]; exact f11)
    have g12 := (hF 12 (by decide) (by decide) (by decide) (by decide) (by decide) (by decide) (by decide) (by decide) (by decide)).trans (by simp only [go_sem, Nat.reduceEqDiff, Nat.reduceLT, Nat.reduceAdd, Nat.reduceLeDiff, Nat.reduceMul, Nat.reduceSub, Int.reduceLE, Int.reduceLT, Int.reduceToNat, Int.reducePow, Int.reduceEq]; exact f12)
    have g13 := (hF 13 (by decide) (by decide) (by decide) (by decide) (by decide) (by decide) (by decide) (by decide) (by decide)).trans (by simp only [go_sem, Nat.reduceEqDiff, Nat.reduceLT, Nat.reduceAdd, Nat.reduceLeDiff, Nat.reduceMul, Nat.reduceSub, Int.reduceLE, Int.reduceLT, Int.reduceToNat, Int.reducePow, Int.reduceEq]; exact f13)
    clear hF f0 f2 f11 f12 f13 F
    (repeat (first | refine W_seq ?_ | refine W_block ?_ | refine W_blk ?_ | refine W_skip ?_))
    refine W_loop (α := Nat) (fun q F' M2 => q ≤ row.length ∧ M2 = M' ∧ look F' 0 = .ptr d.v 0 ∧ look F' 2 = .arr dn 0 G 1 ∧ look F' 8 = V.int a ∧ look F' 11 = .list tg (nats ls) ∧ look F' 12 = V.int ls.length ∧ look F' 13 = V.int j ∧ look F' 23 = .list tg2 (nats row) ∧ look F' 24 = V.int row.length ∧ look F' 25 = V.int q ∧ ∀ k ∈ row.take q, s.grp k = s.grp a ∨ df (s.grp k) = true)
      (fun q => row.length - q) 0 ⟨Nat.zero_le _, rfl, g0, g2, g8, g11, g12, g13, g23, g24, g25, by simp⟩ ?_
    clear g0 g2 g8 g11 g12 g13 g23 g24 g25 F2
    rintro q F M2 ⟨hq, rfl, g0, g2, g8, g11, g12, g13, g23, g24, g25, hqo⟩
    by_cases hlq : q < row.length
    · have hlq' : (q : Int) < (row.length : Int) := by omega
      obtain ⟨k, hk⟩ : ∃ k, row[q]? = some k := ⟨_, List.getElem?_eq_getElem hlq⟩
      have hpk := nats_at hk
      have hka : k ∈ adj to a := by rw [hadj]; exact List.mem_of_getElem? hk
      have hkn := hgood a k hka
      have hw2 : IntKind.i64.wrap ((q : Int) + 1) = ((q + 1 : Nat) : Int) := by rw [wrapI _ (by omega) (by omega)]; omega
      have htq : row.take (q + 1) = row.take q ++ [k] := by rw [List.take_add_one, hk]; rfl
      have hkn' : (k : Int) < (n : Int) := by omega
      have han' : (a : Int) < (n : Int) := by omega
      have hgk := cellsN_at s.grp hkn
      have hga := cellsN_at s.grp han
      have hgG := hG k hkn
      have hgG' : (s.grp k : Int) < (G : Int) := by omega
      have hdk := cellsB_at df hgG
      (repeat (first | refine W_seq ?_ | refine W_block ?_ | refine W_blk ?_ | refine W_skip ?_))
      (refine W_region [] (by rfl) fun K hK => ?_; simp only [go_sem, Nat.reduceEqDiff, Nat.reduceLT, Nat.reduceAdd, Nat.reduceLeDiff, Nat.reduceMul, Nat.reduceSub, Int.reduceLE, Int.reduceLT, Int.reduceToNat, Int.reducePow, Int.reduceEq, g24, g25, hlq'])
      (refine WRun.done _ _ (hK _ _ ?_); clear hK)
      (repeat (first | refine W_seq ?_ | refine W_block ?_ | refine W_blk ?_ | refine W_skip ?_))
      refine W_cond_true (by simp only [go_sem, Nat.reduceEqDiff, Nat.reduceLT, Nat.reduceAdd, Nat.reduceLeDiff, Nat.reduceMul, Nat.reduceSub, Int.reduceLE, Int.reduceLT, Int.reduceToNat, Int.reducePow, Int.reduceEq]) ?_
      (repeat (first | refine W_seq ?_ | refine W_block ?_ | refine W_blk ?_ | refine W_skip ?_))
      (refine W_region [] (by rfl) fun K hK => ?_; simp only [go_sem, Nat.reduceEqDiff, Nat.reduceLT, Nat.reduceAdd, Nat.reduceLeDiff, Nat.reduceMul, Nat.reduceSub, Int.reduceLE, Int.reduceLT, Int.reduceToNat, Int.reducePow, Int.reduceEq, g23, g25, hpk, nats_len, hlq', Int.natCast_nonneg, Int.toNat_natCast, List.head?_drop])
      (refine WRun.done _ _ (hK _ _ ?_); clear hK)
      (repeat (first | refine W_seq ?_ | refine W_block ?_ | refine W_blk ?_ | refine W_skip ?_))
      by_cases he : s.grp k = s.grp a
      · have he' : ((s.grp k : Int) = (s.grp a : Int)) = True := eq_true (by omega)
        (refine W_read [] mixed_ (by rfl) (by decide +kernel) (by decide +kernel) fun K2 hK2 => ?_; simp only [go_sem, List.size_toArray, List.range_succ, List.range_zero, QK, Nat.reduceEqDiff, Nat.reduceLT, Nat.reduceAdd, Nat.reduceLeDiff, Nat.reduceMul, Nat.reduceSub, Int.reduceLE, Int.reduceLT, Int.reduceToNat, Int.reducePow, Int.reduceEq, g0, g2, g8, hv, hgr, hkn', han', hgk, hga, he', Nat.zero_add, Int.natCast_nonneg, Int.toNat_natCast, List.head?_drop]; refine hK2 _ ?_; clear hK2)
        (repeat (first | refine W_seq ?_ | refine W_block ?_ | refine W_blk ?_ | refine W_skip ?_))
        refine W_cond_false (by simp only [go_sem, Nat.reduceEqDiff, Nat.reduceLT, Nat.reduceAdd, Nat.reduceLeDiff, Nat.reduceMul, Nat.reduceSub, Int.reduceLE, Int.reduceLT, Int.reduceToNat, Int.reducePow, Int.reduceEq]) ?_
        (repeat (first | refine W_seq ?_ | refine W_block ?_ | refine W_blk ?_ | refine W_skip ?_))
        (refine W_region [] (by rfl) fun K hK => ?_; simp only [go_sem, Nat.reduceEqDiff, Nat.reduceLT, Nat.reduceAdd, Nat.reduceLeDiff, Nat.reduceMul, Nat.reduceSub, Int.reduceLE, Int.reduceLT, Int.reduceToNat, Int.reducePow, Int.reduceEq, g25, hw2])
        (refine WRun.done _ _ (hK _ _ ?_); clear hK)
        refine W_stop ⟨q + 1, ⟨by omega, rfl, ?_, ?_, ?_, ?_, ?_, ?_, ?_, ?_, ?_, ?_⟩, by omega⟩
        · simp only [go_sem, Nat.reduceEqDiff, Nat.reduceLT, Nat.reduceAdd, Nat.reduceLeDiff, Nat.reduceMul, Nat.reduceSub, Int.reduceLE, Int.reduceLT, Int.reduceToNat, Int.reducePow, Int.reduceEq, g0]
        · simp only [go_sem, Nat.reduceEqDiff, Nat.reduceLT, Nat.reduceAdd, Nat.reduceLeDiff, Nat.reduceMul, Nat.reduceSub, Int.reduceLE, Int.reduceLT, Int.reduceToNat, Int.reducePow, Int.reduceEq, g2]
        · simp only [go_sem, Nat.reduceEqDiff, Nat.reduceLT, Nat.reduceAdd, Nat.reduceLeDiff, Nat.reduceMul, Nat.reduceSub, Int.reduceLE, Int.reduceLT, Int.reduceToNat, Int.reducePow, Int.reduceEq, g8]
        · simp only [go_sem, Nat.reduceEqDiff, Nat.reduceLT, Nat.reduceAdd, Nat.reduceLeDiff, Nat.reduceMul, Nat.reduceSub, Int.reduceLE, Int.reduceLT, Int.reduceToNat, Int.reducePow, Int.reduceEq, g11]
        · simp only [go_sem, Nat.reduceEqDiff, Nat.reduceLT, Nat.reduceAdd, Nat.reduceLeDiff, Nat.reduceMul, Nat.reduceSub, Int.reduceLE, Int.reduceLT, Int.reduceToNat, Int.reducePow, Int.reduceEq, g12]
        · simp only [go_sem, Nat.reduceEqDiff, Nat.reduceLT, Nat.reduceAdd, Nat.reduceLeDiff, Nat.reduceMul, Nat.reduceSub, Int.reduceLE, Int.reduceLT, Int.reduceToNat, Int.reducePow, Int.reduceEq, g13]
        · simp only [go_sem, Nat.reduceEqDiff, Nat.reduceLT, Nat.reduceAdd, Nat.reduceLeDiff, Nat.reduceMul, Nat.reduceSub, Int.reduceLE, Int.reduceLT, Int.reduceToNat, Int.reducePow, Int.reduceEq, g23]
        · simp only [go_sem, Nat.reduceEqDiff, Nat.reduceLT, Nat.reduceAdd, Nat.reduceLeDiff, Nat.reduceMul, Nat.reduceSub, Int.reduceLE, Int.reduceLT, Int.reduceToNat, Int.reducePow, Int.reduceEq, g24]
        · simp only [go_sem, Nat.reduceEqDiff, Nat.reduceLT, Nat.reduceAdd, Nat.reduceLeDiff, Nat.reduceMul, Nat.reduceSub, Int.reduceLE, Int.reduceLT, Int.reduceToNat, Int.reducePow, Int.reduceEq]
        · intro k' hk'
          rw [htq] at hk'
          rcases List.mem_append.1 hk' with hk' | hk'
          · exact hqo k' hk'
          · have : k' = k := by simpa using hk'
            subst this; exact .inl he
      · have he' : ((s.grp k : Int) = (s.grp a : Int)) = False := eq_false (by omega)
        cases hdf : df (s.grp k) with
        | true =>
          rw [hdf] at hdk
          (refine W_read [] mixed_ (by rfl) (by decide +kernel) (by decide +kernel) fun K2 hK2 => ?_; simp only [go_sem, List.size_toArray, List.range_succ, List.range_zero, QK, Nat.reduceEqDiff, Nat.reduceLT, Nat.reduceAdd, Nat.reduceLeDiff, Nat.reduceMul, Nat.reduceSub, Int.reduceLE, Int.reduceLT, Int.reduceToNat, Int.reducePow, Int.reduceEq, g0, g2, g8, hv, hgr, hkn', han', hgk, hga, he', hdn, hgG', hdk, Nat.zero_add, Int.natCast_nonneg, Int.toNat_natCast, List.head?_drop]; refine hK2 _ ?_; clear hK2)
          (repeat (first | refine W_seq ?_ | refine W_block ?_ | refine W_blk ?_ | refine W_skip ?_))
          refine W_cond_false (by simp only [go_sem, Nat.reduceEqDiff, Nat.reduceLT, Nat.reduceAdd, Nat.reduceLeDiff, Nat.reduceMul, Nat.reduceSub, Int.reduceLE, Int.reduceLT, Int.reduceToNat, Int.reducePow, Int.reduceEq]) ?_
          (repeat (first | refine W_seq ?_ | refine W_block ?_ | refine W_blk ?_ | refine W_skip ?_))
          (refine W_region [] (by rfl) fun K hK => ?_; simp only [go_sem, Nat.reduceEqDiff, Nat.reduceLT, Nat.reduceAdd, Nat.reduceLeDiff, Nat.reduceMul, Nat.reduceSub, Int.reduceLE, Int.reduceLT, Int.reduceToNat, Int.reducePow, Int.reduceEq, g25, hw2])
          (refine WRun.done _ _ (hK _ _ ?_); clear hK)
          refine W_stop ⟨q + 1, ⟨by omega, rfl, ?_, ?_, ?_, ?_, ?_, ?_, ?_, ?_, ?_, ?_⟩, by omega⟩
          · simp only [go_sem, Nat.reduceEqDiff, Nat.reduceLT, Nat.reduceAdd, Nat.reduceLeDiff, Nat.reduceMul, Nat.reduceSub, Int.reduceLE, Int.reduceLT, Int.reduceToNat, Int.reducePow, Int.reduceEq, g0]
          · simp only [go_sem, Nat.reduceEqDiff, Nat.reduceLT, Nat.reduceAdd, Nat.reduceLeDiff, Nat.reduceMul, Nat.reduceSub, Int.reduceLE, Int.reduceLT, Int.reduceToNat, Int.reducePow, Int.reduceEq, g2]
          · simp only [go_sem, Nat.reduceEqDiff, Nat.reduceLT, Nat.reduceAdd, Nat.reduceLeDiff, Nat.reduceMul, Nat.reduceSub, Int.reduceLE, Int.reduceLT, Int.reduceToNat, Int.reducePow, Int.reduceEq, g8]
          · simp only [go_sem, Nat.reduceEqDiff, Nat.reduceLT, Nat.reduceAdd, Nat.reduceLeDiff, Nat.reduceMul, Nat.reduceSub, Int.reduceLE, Int.reduceLT, Int.reduceToNat, Int.reducePow, Int.reduceEq, g11]
          · simp only [go_sem, Nat.reduceEqDiff, Nat.reduceLT, Nat.reduceAdd, Nat.reduceLeDiff, Nat.reduceMul, Nat.reduceSub, Int.reduceLE, Int.reduceLT, Int.reduceToNat, Int.reducePow, Int.reduceEq, g12]
          · simp only [go_sem, Nat.reduceEqDiff, Nat.reduceLT, Nat.reduceAdd, Nat.reduceLeDiff, Nat.reduceMul, Nat.reduceSub, Int.reduceLE, Int.reduceLT, Int.reduceToNat, Int.reducePow, Int.reduceEq, g13]
          · simp only [go_sem, Nat.reduceEqDiff, Nat.reduceLT, Nat.reduceAdd, Nat.reduceLeDiff, Nat.reduceMul, Nat.reduceSub, Int.reduceLE, Int.reduceLT, Int.reduceToNat, Int.reducePow, Int.reduceEq, g23]
          · simp only [go_sem, Nat.reduceEqDiff, Nat.reduceLT, Nat.reduceAdd, Nat.reduceLeDiff, Nat.reduceMul, Nat.reduceSub, Int.reduceLE, Int.reduceLT, Int.reduceToNat, Int.reducePow, Int.reduceEq, g24]
          · simp only [go_sem, Nat.reduceEqDiff, Nat.reduceLT, Nat.reduceAdd, Nat.reduceLeDiff, Nat.reduceMul, Nat.reduceSub, Int.reduceLE, Int.reduceLT, Int.reduceToNat, Int.reducePow, Int.reduceEq]
          · intro k' hk'
            rw [htq] at hk'
            rcases List.mem_append.1 hk' with hk' | hk'
            · exact hqo k' hk'
            · have : k' = k := by simpa using hk'
              subst this; exact .inr hdf
        | false =>
          rw [hdf] at hdk
          (refine W_read [] mixed_ (by rfl) (by decide +kernel) (by decide +kernel) fun K2 hK2 => ?_; simp only [go_sem, List.size_toArray, List.range_succ, List.range_zero, QK, Nat.reduceEqDiff, Nat.reduceLT, Nat.reduceAdd, Nat.reduceLeDiff, Nat.reduceMul, Nat.reduceSub, Int.reduceLE, Int.reduceLT, Int.reduceToNat, Int.reducePow, Int.reduceEq, g0, g2, g8, hv, hgr, hkn', han', hgk, hga, he', hdn, hgG', hdk, Nat.zero_add, Int.natCast_nonneg, Int.toNat_natCast, List.head?_drop]; refine hK2 _ ?_; clear hK2)
          (repeat (first | refine W_seq ?_ | refine W_block ?_ | refine W_blk ?_ | refine W_skip ?_))
          refine W_cond_true (by simp only [go_sem, Nat.reduceEqDiff, Nat.reduceLT, Nat.reduceAdd, Nat.reduceLeDiff, Nat.reduceMul, Nat.reduceSub, Int.reduceLE, Int.reduceLT, Int.reduceToNat, Int.reducePow, Int.reduceEq]) ?_
          (repeat (first | refine W_seq ?_ | refine W_block ?_ | refine W_blk ?_ | refine W_skip ?_))
          (refine W_region [] (by rfl) fun K hK => ?_; simp only [go_sem, Nat.reduceEqDiff, Nat.reduceLT, Nat.reduceAdd, Nat.reduceLeDiff, Nat.reduceMul, Nat.reduceSub, Int.reduceLE, Int.reduceLT, Int.reduceToNat, Int.reducePow, Int.reduceEq])
          (refine WRun.done _ _ (hK _ _ ?_); clear hK)
          refine W_ret ?_
          simp only [go_sem, Nat.reduceEqDiff, Nat.reduceLT, Nat.reduceAdd, Nat.reduceLeDiff, Nat.reduceMul, Nat.reduceSub, Int.reduceLE, Int.reduceLT, Int.reduceToNat, Int.reducePow, Int.reduceEq]
          refine ⟨false, rfl, by simp, fun hall => absurd (hall a (List.mem_of_getElem? ha) k hka) (by simp [he, hdf])⟩
    · have hlq' : ¬ (q : Int) < (row.length : Int) := by omega
      (repeat (first | refine W_seq ?_ | refine W_block ?_ | refine W_blk ?_ | refine W_skip ?_))
      (refine W_region [] (by rfl) fun K hK => ?_; simp only [go_sem, Nat.reduceEqDiff, Nat.reduceLT, Nat.reduceAdd, Nat.reduceLeDiff, Nat.reduceMul, Nat.reduceSub, Int.reduceLE, Int.reduceLT, Int.reduceToNat, Int.reducePow, Int.reduceEq, g24, g25, hlq'])
      (refine WRun.done _ _ (hK _ _ ?_); clear hK)
      (repeat (first | refine W_seq ?_ | refine W_block ?_ | refine W_blk ?_ | refine W_skip ?_))
      refine W_cond_false (by simp only [go_sem, Nat.reduceEqDiff, Nat.reduceLT, Nat.reduceAdd, Nat.reduceLeDiff, Nat.reduceMul, Nat.reduceSub, Int.reduceLE, Int.reduceLT, Int.reduceToNat, Int.reducePow, Int.reduceEq]) ?_
      refine W_exit (Qof_code (Qof_stop (Qof_blk_same ?_)))
      (repeat (first | refine W_seq ?_ | refine W_block ?_ | refine W_blk ?_ | refine W_skip ?_))
      (refine W_region [] (by rfl) fun K hK => ?_; simp only [go_sem, Nat.reduceEqDiff, Nat.reduceLT, Nat.reduceAdd, Nat.reduceLeDiff, Nat.reduceMul, Nat.reduceSub, Int.reduceLE, Int.reduceLT, Int.reduceToNat, Int.reducePow, Int.reduceEq, g13, hw1])
      (refine WRun.done _ _ (hK _ _ ?_); clear hK)
      refine W_stop ⟨j + 1, ⟨by omega, rfl, ?_, ?_, ?_, ?_, ?_, ?_⟩, by omega⟩
      · simp only [go_sem, Nat.reduceEqDiff, Nat.reduceLT, Nat.reduceAdd, Nat.reduceLeDiff, Nat.reduceMul, Nat.reduceSub, Int.reduceLE, Int.reduceLT, Int.reduceToNat, Int.reducePow, Int.reduceEq, g0]
      · simp only [go_sem, Nat.reduceEqDiff, Nat.reduceLT, Nat.reduceAdd, Nat.reduceLeDiff, Nat.reduceMul, Nat.reduceSub, Int.reduceLE, Int.reduceLT, Int.reduceToNat, Int.reducePow, Int.reduceEq, g2]
      · simp only [go_sem, Nat.reduceEqDiff, Nat.reduceLT, Nat.reduceAdd, Nat.reduceLeDiff, Nat.reduceMul, Nat.reduceSub, Int.reduceLE, Int.reduceLT, Int.reduceToNat, Int.reducePow, Int.reduceEq, g11]
      · simp only [go_sem, Nat.reduceEqDiff, Nat.reduceLT, Nat.reduceAdd, Nat.reduceLeDiff, Nat.reduceMul, Nat.reduceSub, Int.reduceLE, Int.reduceLT, Int.reduceToNat, Int.reducePow, Int.reduceEq, g12]
      · simp only [go_sem, Nat.reduceEqDiff, Nat.reduceLT, Nat.reduceAdd, Nat.reduceLeDiff, Nat.reduceMul, Nat.reduceSub, Int.reduceLE, Int.reduceLT, Int.reduceToNat, Int.reducePow, Int.reduceEq]
      · rw [List.take_of_length_le (by omega)] at hqo
        intro a' ha'
        rw [htk] at ha'
        rcases List.mem_append.1 ha' with ha' | ha'
        · exact hso a' ha'
        · have : a' = a := by simpa using ha'
          subst this; rw [hadj]; exact hqo
  · have hlt' : ¬ (j : Int) < (ls.length : Int) := by omega
    (repeat (first | refine W_seq ?_ | refine W_block ?_ | refine W_blk ?_ | refine W_skip ?_))
    (refine W_region [] (by rfl) fun K hK => ?_; simp only [go_sem, Nat.reduceEqDiff, Nat.reduceLT, Nat.reduceAdd, Nat.reduceLeDiff, Nat.reduceMul, Nat.reduceSub, Int.reduceLE, Int.reduceLT, Int.reduceToNat, Int.reducePow, Int.reduceEq, f12, f13, hlt'])
    (refine WRun.done _ _ (hK _ _ ?_); clear hK)
    (repeat (first | refine W_seq ?_ | refine W_block ?_ | refine W_blk ?_ | refine W_skip ?_))
    refine W_cond_false (by simp only [go_sem, Nat.reduceEqDiff, Nat.reduceLT, Nat.reduceAdd, Nat.reduceLeDiff, Nat.reduceMul, Nat.reduceSub, Int.reduceLE, Int.reduceLT, Int.reduceToNat, Int.reducePow, Int.reduceEq]) ?_
    refine W_exit (Qof_code (Qof_stop (Qof_blk_same ?_)))
    (repeat (first | refine W_seq ?_ | refine W_block ?_ | refine W_blk ?_ | refine W_skip ?_))
    (refine W_region [] (by rfl) fun K hK => ?_; simp only [go_sem, Nat.reduceEqDiff, Nat.reduceLT, Nat.reduceAdd, Nat.reduceLeDiff, Nat.reduceMul, Nat.reduceSub, Int.reduceLE, Int.reduceLT, Int.reduceToNat, Int.reducePow, Int.reduceEq])
    (refine WRun.done _ _ (hK _ _ ?_); clear hK)
    refine W_ret ?_
    simp only [go_sem, Nat.reduceEqDiff, Nat.reduceLT, Nat.reduceAdd, Nat.reduceLeDiff, Nat.reduceMul, Nat.reduceSub, Int.reduceLE, Int.reduceLT, Int.reduceToNat, Int.reducePow, Int.reduceEq]
    rw [List.take_of_length_le (by omega)] at hso
    exact ⟨true, rfl, by simpa using hso⟩
end Go.Ax

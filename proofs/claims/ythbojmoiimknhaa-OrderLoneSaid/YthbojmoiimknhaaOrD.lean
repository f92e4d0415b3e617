import Derived.Test.YthbojmoiimknhaaOrC
set_option linter.unusedSimpArgs false
set_option linter.unusedVariables false
namespace Go.Ax
open Go.Proofs Go.Ord

theorem walk_r3 {Ret : Fr → AMem → Prop} {k : List It} {M0 M : AMem} {B n : Nat} {x : V} {d : Ids} {s : TS} {sk : Option Nat} {to : List (List Nat)} {rs : List V} (h : VisAt M0 B n x d s sk M) (hto : ToAt M0 B x to rs) (hn : n = to.length) (i : Nat) (row : List Nat) (hr : to[i]? = some row)
    (F : Fr) (f0 : look F 0 = .ptr d.v 0) (f1 : look F 1 = V.int i)
    (hk : ∀ F' tg, look F' 0 = .ptr d.v 0 → look F' 1 = V.int i → look F' 56 = .list tg (row.map fun k : Nat => V.int (k : Int)) → look F' 57 = V.int row.length → look F' 58 = V.int 0 → W Try.prog 190 Ret k F' M) :
    W Try.prog 190 Ret (.code (part [1,1,1,0,0] body41) :: k) F M := by
  obtain ⟨tg, hrow⟩ := hto.rows i row hr
  have hi := (List.getElem?_eq_some_iff.1 hr).1
  have hlt : (i : Int) < (to.length : Int) := by omega
  have hlt2 : (i : Int) < (rs.length : Int) := by rw [hto.len]; exact hlt
  have hv := h.v
  rcases hto.x with ⟨tg2, rfl⟩ | ⟨j, hj, rfl, hcs⟩
  · (refine W_region [] (by rfl) fun K hK => ?_; simp only [go_sem, Nat.reduceEqDiff, Nat.reduceLT, Nat.reduceAdd, Nat.reduceLeDiff, Nat.reduceMul, Nat.reduceSub, Int.reduceLE, Int.reduceLT, Int.reduceToNat, Int.reducePow, Int.reduceEq, f0, f1, hv, hlt2, hrow, Nat.zero_add, Int.natCast_nonneg, Int.toNat_natCast, List.head?_drop])
    (refine WRun.done _ _ (hK _ _ ?_); clear hK)
    refine hk _ tg ?_ ?_ ?_ ?_ ?_
    · simp only [go_sem, Nat.reduceEqDiff, Nat.reduceLT, Nat.reduceAdd, Nat.reduceLeDiff, Nat.reduceMul, Nat.reduceSub, Int.reduceLE, Int.reduceLT, Int.reduceToNat, Int.reducePow, Int.reduceEq, f0]
    · simp only [go_sem, Nat.reduceEqDiff, Nat.reduceLT, Nat.reduceAdd, Nat.reduceLeDiff, Nat.reduceMul, Nat.reduceSub, Int.reduceLE, Int.reduceLT, Int.reduceToNat, Int.reducePow, Int.reduceEq, f1]
    · simp only [go_sem, Nat.reduceEqDiff, Nat.reduceLT, Nat.reduceAdd, Nat.reduceLeDiff, Nat.reduceMul, Nat.reduceSub, Int.reduceLE, Int.reduceLT, Int.reduceToNat, Int.reducePow, Int.reduceEq]
    · simp only [go_sem, Nat.reduceEqDiff, Nat.reduceLT, Nat.reduceAdd, Nat.reduceLeDiff, Nat.reduceMul, Nat.reduceSub, Int.reduceLE, Int.reduceLT, Int.reduceToNat, Int.reducePow, Int.reduceEq]
    · simp only [go_sem, Nat.reduceEqDiff, Nat.reduceLT, Nat.reduceAdd, Nat.reduceLeDiff, Nat.reduceMul, Nat.reduceSub, Int.reduceLE, Int.reduceLT, Int.reduceToNat, Int.reducePow, Int.reduceEq]
  · have hcs2 := h.keep j hj
    rw [hcs] at hcs2
    (refine W_region [] (by rfl) fun K hK => ?_; simp only [go_sem, Nat.reduceEqDiff, Nat.reduceLT, Nat.reduceAdd, Nat.reduceLeDiff, Nat.reduceMul, Nat.reduceSub, Int.reduceLE, Int.reduceLT, Int.reduceToNat, Int.reducePow, Int.reduceEq, f0, f1, hv, hlt, hrow, hcs2, Nat.zero_add, Int.natCast_nonneg, Int.toNat_natCast, List.head?_drop])
    (refine WRun.done _ _ (hK _ _ ?_); clear hK)
    refine hk _ tg ?_ ?_ ?_ ?_ ?_
    · simp only [go_sem, Nat.reduceEqDiff, Nat.reduceLT, Nat.reduceAdd, Nat.reduceLeDiff, Nat.reduceMul, Nat.reduceSub, Int.reduceLE, Int.reduceLT, Int.reduceToNat, Int.reducePow, Int.reduceEq, f0]
    · simp only [go_sem, Nat.reduceEqDiff, Nat.reduceLT, Nat.reduceAdd, Nat.reduceLeDiff, Nat.reduceMul, Nat.reduceSub, Int.reduceLE, Int.reduceLT, Int.reduceToNat, Int.reducePow, Int.reduceEq, f1]
    · simp only [go_sem, Nat.reduceEqDiff, Nat.reduceLT, Nat.reduceAdd, Nat.reduceLeDiff, Nat.reduceMul, Nat.reduceSub, Int.reduceLE, Int.reduceLT, Int.reduceToNat, Int.reducePow, Int.reduceEq]
    · simp only [go_sem, Nat.reduceEqDiff, Nat.reduceLT, Nat.reduceAdd, Nat.reduceLeDiff, Nat.reduceMul, Nat.reduceSub, Int.reduceLE, Int.reduceLT, Int.reduceToNat, Int.reducePow, Int.reduceEq]
    · simp only [go_sem, Nat.reduceEqDiff, Nat.reduceLT, Nat.reduceAdd, Nat.reduceLeDiff, Nat.reduceMul, Nat.reduceSub, Int.reduceLE, Int.reduceLT, Int.reduceToNat, Int.reducePow, Int.reduceEq]

theorem min_cast (a b : Nat) : (if (b : Int) < (a : Int) then (b : Int) else (a : Int)) = ((min a b : Nat) : Int) := by
  split <;> omega

theorem adj_of {to : List (List Nat)} {i : Nat} {row : List Nat} (h : to[i]? = some row) : adj to i = row := by simp [adj, h]

theorem lp_white {to : List (List Nat)} {g : List Nat} {s0 s : TS} {i : Nat} {pre : List Nat} (h : Lp to g s0 i pre s) : white to s ≤ white to (enter s0 i) := by
  refine white_le fun q hq => ?_
  by_cases hqi : q = i
  · subst hqi; rw [h.me]; omega
  · have : s0.num q ≠ 0 := by
      have e : (enter s0 i).num q = s0.num q := upd_ne _ _ hqi
      rwa [e] at hq
    rw [(h.keep q this).1]; exact this

theorem walk_ok {M0 : AMem} {B n : Nat} {x : V} {d : Ids} {to : List (List Nat)} {rs : List V} (hto : ToAt M0 B x to rs) (hn : n = to.length) (hn1 : n ≤ 1000000) (hgood : ∀ i, ∀ k ∈ adj to i, k < n) (hrl : ∀ i, (adj to i).length ≤ 9223372036854775807) : ∀ (m : Nat) (s : TS) (i : Nat) (sk : Option Nat) (M : AMem) (g : List Nat),
    white to s ≤ m → Wf to g s → s.num i = 0 → i < n → (∀ y ∈ g, Rch to y i) → VisAt M0 B n x d s sk M → B ≤ M.length →
    ACalls Try.prog 41 [.ptr d.v 0, V.int i] M (fun r M' => ∃ s' sk', VisAt M0 B n x d s' sk' M' ∧ Post to g s i s' ∧ M.length ≤ M'.length) := by
  intro m
  induction m with
  | zero =>
    intro s i sk M g hm hw h0 hi
    have := white_upd (to := to) (s := s) (s' := enter s i) (v := s.next + 1) (by omega) h0 (by omega) rfl
    omega
  | succ m ih =>
  intro s i sk M g hm hw h0 hi hg h hB
  refine acalls_enter [] 190 Try.func41 rfl rfl rfl (by simp) ?_
  have hwh := white_upd (to := to) (s := s) (s' := enter s i) (v := s.next + 1) (by omega) h0 (by omega) rfl
  have hnxt := hw.nxt
  have hgn := hw.gn
  refine walk_enter h hto.one i hi hn1 (by omega) (by omega) hB _ (by simp only [go_sem, Nat.reduceEqDiff, Nat.reduceLT, Nat.reduceAdd, Nat.reduceLeDiff, Nat.reduceMul, Nat.reduceSub, Int.reduceLE, Int.reduceLT, Int.reduceToNat, Int.reducePow, Int.reduceEq]) (by simp only [go_sem, Nat.reduceEqDiff, Nat.reduceLT, Nat.reduceAdd, Nat.reduceLeDiff, Nat.reduceMul, Nat.reduceSub, Int.reduceLE, Int.reduceLT, Int.reduceToNat, Int.reducePow, Int.reduceEq]) ?_
  intro F M1 sk1 f0 f1 h1 hml
  have hlp := enter_lp hw (by omega) h0 hg
  clear h
  obtain ⟨row, hrow⟩ : ∃ row, to[i]? = some row := ⟨_, List.getElem?_eq_getElem (by omega)⟩
  have hadj : adj to i = row := adj_of hrow
  have hrl1 : row.length ≤ 9223372036854775807 := by have := hrl i; rw [hadj] at this; exact this
  (repeat (first | refine W_seq ?_ | refine W_block ?_ | refine W_blk ?_ | refine W_skip ?_))
  refine walk_r3 h1 hto hn i row hrow F f0 f1 ?_
  clear f0 f1 F
  intro F tg f0 f1 f56 f57 f58
  (repeat (first | refine W_seq ?_ | refine W_block ?_ | refine W_blk ?_ | refine W_skip ?_))
  refine W_loop (α := Nat × TS × Option Nat) (fun q F' M' => q.1 ≤ row.length ∧ look F' 0 = .ptr d.v 0 ∧ look F' 1 = V.int i ∧ look F' 56 = .list tg (row.map fun k : Nat => V.int (k : Int)) ∧ look F' 57 = V.int row.length ∧ look F' 58 = V.int q.1 ∧
      VisAt M0 B n x d q.2.1 q.2.2 M' ∧ Lp to g s i (row.take q.1) q.2.1 ∧ M.length ≤ M'.length) (fun q => row.length - q.1) (0, enter s i, sk1) ⟨Nat.zero_le _, f0, f1, f56, f57, f58, h1, hlp, hml⟩ ?_
  clear f0 f1 f56 f57 f58 F h1 hml hlp
  rintro ⟨j, s1, sk2⟩ F M2 ⟨hj, f0, f1, f56, f57, f58, h1, hlp, hml⟩
  simp only at hj f58 h1 hlp
  have hid := h1.ids
  have hv := h1.v
  have hlo := h1.lo
  have hnu := h1.nu
  have hon := h1.on
  have hi1 : i + 1 ≤ n := hi
  have hin : (i : Int) < (n : Int) := by omega
  by_cases hlt : j < row.length
  · have hlt' : (j : Int) < (row.length : Int) := by omega
    obtain ⟨k, hk⟩ : ∃ k, row[j]? = some k := ⟨_, List.getElem?_eq_getElem hlt⟩
    have hp : (row.map fun k : Nat => V.int (k : Int))[j]? = some (V.int (k : Int)) := by rw [List.getElem?_map, hk]; rfl
    have hka : k ∈ adj to i := by rw [hadj]; exact List.mem_of_getElem? hk
    have hkn : k < n := hgood i k hka
    have hkn' : (k : Int) < (n : Int) := by omega
    have htk : row.take (j + 1) = row.take j ++ [k] := by rw [List.take_add_one, hk]; rfl
    have hw1 : IntKind.i64.wrap ((j : Int) + 1) = ((j + 1 : Nat) : Int) := by rw [wrapI _ (by omega) (by omega)]; omega
    have hnk := cellsN_at s1.num hkn
    have hok := cellsB_at s1.on hkn
    (repeat (first | refine W_seq ?_ | refine W_block ?_ | refine W_blk ?_ | refine W_skip ?_))
    (refine W_region [] (by rfl) fun K hK => ?_; simp only [go_sem, Nat.reduceEqDiff, Nat.reduceLT, Nat.reduceAdd, Nat.reduceLeDiff, Nat.reduceMul, Nat.reduceSub, Int.reduceLE, Int.reduceLT, Int.reduceToNat, Int.reducePow, Int.reduceEq, f57, f58, hlt'])
    (refine WRun.done _ _ (hK _ _ ?_); clear hK)
    (repeat (first | refine W_seq ?_ | refine W_block ?_ | refine W_blk ?_ | refine W_skip ?_))
    refine W_cond_true (by simp only [go_sem, Nat.reduceEqDiff, Nat.reduceLT, Nat.reduceAdd, Nat.reduceLeDiff, Nat.reduceMul, Nat.reduceSub, Int.reduceLE, Int.reduceLT, Int.reduceToNat, Int.reducePow, Int.reduceEq]) ?_
    (repeat (first | refine W_seq ?_ | refine W_block ?_ | refine W_blk ?_ | refine W_skip ?_))
    (refine W_region [] (by rfl) fun K hK => ?_; simp only [go_sem, Nat.reduceEqDiff, Nat.reduceLT, Nat.reduceAdd, Nat.reduceLeDiff, Nat.reduceMul, Nat.reduceSub, Int.reduceLE, Int.reduceLT, Int.reduceToNat, Int.reducePow, Int.reduceEq, f56, f58, hp, hlt', Int.natCast_nonneg, Int.toNat_natCast, List.head?_drop])
    (refine WRun.done _ _ (hK _ _ ?_); clear hK)
    by_cases hk0 : s1.num k = 0
    · have hz : ((s1.num k : Int) = 0) = True := eq_true (by omega)
      (repeat (first | refine W_seq ?_ | refine W_block ?_ | refine W_blk ?_ | refine W_skip ?_))
      (refine W_region [] (by rfl) fun K hK => ?_; simp only [go_sem, Nat.reduceEqDiff, Nat.reduceLT, Nat.reduceAdd, Nat.reduceLeDiff, Nat.reduceMul, Nat.reduceSub, Int.reduceLE, Int.reduceLT, Int.reduceToNat, Int.reducePow, Int.reduceEq, f0, hv, hnu, hnk, hz, hkn', Int.natCast_nonneg, Int.toNat_natCast, List.head?_drop, Nat.zero_add])
      (refine WRun.done _ _ (hK _ _ ?_); clear hK)
      (repeat (first | refine W_seq ?_ | refine W_block ?_ | refine W_blk ?_ | refine W_skip ?_))
      refine W_cond_true (by simp only [go_sem, Nat.reduceEqDiff, Nat.reduceLT, Nat.reduceAdd, Nat.reduceLeDiff, Nat.reduceMul, Nat.reduceSub, Int.reduceLE, Int.reduceLT, Int.reduceToNat, Int.reducePow, Int.reduceEq]) ?_
      (repeat (first | refine W_seq ?_ | refine W_block ?_ | refine W_blk ?_ | refine W_skip ?_))
      (refine W_region [] (by rfl) fun K hK => ?_; simp only [go_sem, Nat.reduceEqDiff, Nat.reduceLT, Nat.reduceAdd, Nat.reduceLeDiff, Nat.reduceMul, Nat.reduceSub, Int.reduceLE, Int.reduceLT, Int.reduceToNat, Int.reducePow, Int.reduceEq, f0])
      refine WRun.call _ _ _ _ _ _ _ (ih s1 k sk2 M2 (i :: g) ?_ hlp.wf hk0 hkn (hlp.reach hw hg hka) h1 (by omega)) ?_
      · have := lp_white hlp
        omega
      rintro r M3 ⟨s2, sk3, h2, hpost, hml2⟩
      simp only [go_sem, Nat.reduceEqDiff, Nat.reduceLT, Nat.reduceAdd, Nat.reduceLeDiff, Nat.reduceMul, Nat.reduceSub, Int.reduceLE, Int.reduceLT, Int.reduceToNat, Int.reducePow, Int.reduceEq]
      (refine WRun.done _ _ (hK _ _ ?_); clear hK)
      have hl2 := hlp.walked h0 k hk0 hpost hka
      rw [← htk] at hl2
      have hv2 := h2.v
      have hlo2 := h2.lo
      have hli2 := cellsN_at s2.low hi
      have hlk2 := cellsN_at s2.low hkn
      have hmc := min_cast (s2.low i) (s2.low k)
      have o1 := overN s2.low hi (min (s2.low i) (s2.low k))
      (repeat (first | refine W_seq ?_ | refine W_block ?_ | refine W_blk ?_ | refine W_skip ?_))
      (refine W_draw [] (fun X => X[d.v]? = some (.cells [x, .arr d.lo 0 n 1, .arr d.nu 0 n 1, .arr d.on 0 n 1, wordsV sk3 s2.stk.length, V.int s2.next, .arr d.gr 0 n 1, V.int s2.groups]) ∧ X[d.lo]? = some (.cells (cellsN n s2.low))) mixed_ (by rfl) ?_ fun K hK => ?_)
      · exact ⟨hv2, hlo2⟩
      (refine DR_quiet [0, 1, 2, 3, 4, 5, 6, 7, 8, 9, 10, 11, 12, 13, 14, 15, 16, 17, 18, 19, 20] (by decide +kernel) (fun M_ hS_ => ?_) (fun K2 hK2 => ?_); (focus (simp only [go_sem, Nat.reduceEqDiff, Nat.reduceLT, Nat.reduceAdd, Nat.reduceLeDiff, Nat.reduceMul, Nat.reduceSub, Int.reduceLE, Int.reduceLT, Int.reduceToNat, Int.reducePow, Int.reduceEq, hS_, f0, f1, hv2, hlo2, hli2, hlk2, hin, hkn', hmc, Nat.zero_add, Int.natCast_nonneg, Int.toNat_natCast, List.head?_drop])); simp only [go_sem, Nat.reduceEqDiff, Nat.reduceLT, Nat.reduceAdd, Nat.reduceLeDiff, Nat.reduceMul, Nat.reduceSub, Int.reduceLE, Int.reduceLT, Int.reduceToNat, Int.reducePow, Int.reduceEq, f0, f1, hv2, hlo2, hli2, hlk2, hin, hkn', hmc, Nat.zero_add, Int.natCast_nonneg, Int.toNat_natCast, List.head?_drop]; refine hK2 _ ?_; clear hK2)
      (refine DR_last' 21 (by decide +kernel) (by decide +kernel) (by decide +kernel) (by simp only [go_sem, Nat.reduceEqDiff, Nat.reduceLT, Nat.reduceAdd, Nat.reduceLeDiff, Nat.reduceMul, Nat.reduceSub, Int.reduceLE, Int.reduceLT, Int.reduceToNat, Int.reducePow, Int.reduceEq, hlo2, cellsN_len, hi1, o1]) ?_; simp only [go_sem, Nat.reduceEqDiff, Nat.reduceLT, Nat.reduceAdd, Nat.reduceLeDiff, Nat.reduceMul, Nat.reduceSub, Int.reduceLE, Int.reduceLT, Int.reduceToNat, Int.reducePow, Int.reduceEq, hlo2, cellsN_len, hi1, o1]; refine hK _ _ ?_; clear hK)
      have h3 := h2.setLo (upd s2.low i (min (s2.low i) (s2.low k)))
      have hml3 : (M3.set d.lo (.cells (cellsN n (upd s2.low i (min (s2.low i) (s2.low k)))))).length = M3.length := by simp
      generalize M3.set d.lo (.cells (cellsN n (upd s2.low i (min (s2.low i) (s2.low k))))) = M4 at h3 hml3 ⊢
      (repeat (first | refine W_seq ?_ | refine W_block ?_ | refine W_blk ?_ | refine W_skip ?_))
      (refine W_region [] (by rfl) fun K hK => ?_; simp only [go_sem, Nat.reduceEqDiff, Nat.reduceLT, Nat.reduceAdd, Nat.reduceLeDiff, Nat.reduceMul, Nat.reduceSub, Int.reduceLE, Int.reduceLT, Int.reduceToNat, Int.reducePow, Int.reduceEq, f58, hw1])
      (refine WRun.done _ _ (hK _ _ ?_); clear hK)
      refine W_stop ⟨(j + 1, _, sk3), ⟨by show j + 1 ≤ _; omega, ?_, ?_, ?_, ?_, ?_, h3, hl2, by omega⟩, by show row.length - (j + 1) < row.length - j; omega⟩
      · simp only [go_sem, Nat.reduceEqDiff, Nat.reduceLT, Nat.reduceAdd, Nat.reduceLeDiff, Nat.reduceMul, Nat.reduceSub, Int.reduceLE, Int.reduceLT, Int.reduceToNat, Int.reducePow, Int.reduceEq, f0]
      · simp only [go_sem, Nat.reduceEqDiff, Nat.reduceLT, Nat.reduceAdd, Nat.reduceLeDiff, Nat.reduceMul, Nat.reduceSub, Int.reduceLE, Int.reduceLT, Int.reduceToNat, Int.reducePow, Int.reduceEq, f1]
      · simp only [go_sem, Nat.reduceEqDiff, Nat.reduceLT, Nat.reduceAdd, Nat.reduceLeDiff, Nat.reduceMul, Nat.reduceSub, Int.reduceLE, Int.reduceLT, Int.reduceToNat, Int.reducePow, Int.reduceEq, f56]
      · simp only [go_sem, Nat.reduceEqDiff, Nat.reduceLT, Nat.reduceAdd, Nat.reduceLeDiff, Nat.reduceMul, Nat.reduceSub, Int.reduceLE, Int.reduceLT, Int.reduceToNat, Int.reducePow, Int.reduceEq, f57]
      · simp only [go_sem, Nat.reduceEqDiff, Nat.reduceLT, Nat.reduceAdd, Nat.reduceLeDiff, Nat.reduceMul, Nat.reduceSub, Int.reduceLE, Int.reduceLT, Int.reduceToNat, Int.reducePow, Int.reduceEq]
    · have hz : ((s1.num k : Int) = 0) = False := eq_false (by omega)
      (repeat (first | refine W_seq ?_ | refine W_block ?_ | refine W_blk ?_ | refine W_skip ?_))
      (refine W_region [] (by rfl) fun K hK => ?_; simp only [go_sem, Nat.reduceEqDiff, Nat.reduceLT, Nat.reduceAdd, Nat.reduceLeDiff, Nat.reduceMul, Nat.reduceSub, Int.reduceLE, Int.reduceLT, Int.reduceToNat, Int.reducePow, Int.reduceEq, f0, hv, hnu, hnk, hz, hkn', Int.natCast_nonneg, Int.toNat_natCast, List.head?_drop, Nat.zero_add])
      (refine WRun.done _ _ (hK _ _ ?_); clear hK)
      (repeat (first | refine W_seq ?_ | refine W_block ?_ | refine W_blk ?_ | refine W_skip ?_))
      refine W_cond_false (by simp only [go_sem, Nat.reduceEqDiff, Nat.reduceLT, Nat.reduceAdd, Nat.reduceLeDiff, Nat.reduceMul, Nat.reduceSub, Int.reduceLE, Int.reduceLT, Int.reduceToNat, Int.reducePow, Int.reduceEq]) ?_
      (repeat (first | refine W_seq ?_ | refine W_block ?_ | refine W_blk ?_ | refine W_skip ?_))
      (refine W_region [] (by rfl) fun K hK => ?_; simp only [go_sem, Nat.reduceEqDiff, Nat.reduceLT, Nat.reduceAdd, Nat.reduceLeDiff, Nat.reduceMul, Nat.reduceSub, Int.reduceLE, Int.reduceLT, Int.reduceToNat, Int.reducePow, Int.reduceEq, f0, hv, hon, hok, hkn', Int.natCast_nonneg, Int.toNat_natCast, List.head?_drop, Nat.zero_add])
      (refine WRun.done _ _ (hK _ _ ?_); clear hK)
      cases ho : s1.on k with
      | true =>
        (repeat (first | refine W_seq ?_ | refine W_block ?_ | refine W_blk ?_ | refine W_skip ?_))
        refine W_cond_true (by simp only [go_sem, Nat.reduceEqDiff, Nat.reduceLT, Nat.reduceAdd, Nat.reduceLeDiff, Nat.reduceMul, Nat.reduceSub, Int.reduceLE, Int.reduceLT, Int.reduceToNat, Int.reducePow, Int.reduceEq, ho]) ?_
        have hl2 := hlp.seen_on h0 k hk0 ho hka
        rw [← htk] at hl2
        have hli2 := cellsN_at s1.low hi
        have hmc := min_cast (s1.low i) (s1.num k)
        have o1 := overN s1.low hi (min (s1.low i) (s1.num k))
        (repeat (first | refine W_seq ?_ | refine W_block ?_ | refine W_blk ?_ | refine W_skip ?_))
        (refine W_draw [] (fun X => X[d.v]? = some (.cells [x, .arr d.lo 0 n 1, .arr d.nu 0 n 1, .arr d.on 0 n 1, wordsV sk2 s1.stk.length, V.int s1.next, .arr d.gr 0 n 1, V.int s1.groups]) ∧ X[d.lo]? = some (.cells (cellsN n s1.low)) ∧ X[d.nu]? = some (.cells (cellsN n s1.num))) mixed_ (by rfl) ?_ fun K hK => ?_)
        · exact ⟨hv, hlo, hnu⟩
        (refine DR_quiet [0, 1, 2, 3, 4, 5, 6, 7, 8, 9, 10, 11, 12, 13, 14, 15, 16, 17, 18, 19, 20] (by decide +kernel) (fun M_ hS_ => ?_) (fun K2 hK2 => ?_); (focus (simp only [go_sem, Nat.reduceEqDiff, Nat.reduceLT, Nat.reduceAdd, Nat.reduceLeDiff, Nat.reduceMul, Nat.reduceSub, Int.reduceLE, Int.reduceLT, Int.reduceToNat, Int.reducePow, Int.reduceEq, hS_, f0, f1, hv, hlo, hnu, hli2, hnk, hin, hkn', hmc, Nat.zero_add, Int.natCast_nonneg, Int.toNat_natCast, List.head?_drop])); simp only [go_sem, Nat.reduceEqDiff, Nat.reduceLT, Nat.reduceAdd, Nat.reduceLeDiff, Nat.reduceMul, Nat.reduceSub, Int.reduceLE, Int.reduceLT, Int.reduceToNat, Int.reducePow, Int.reduceEq, f0, f1, hv, hlo, hnu, hli2, hnk, hin, hkn', hmc, Nat.zero_add, Int.natCast_nonneg, Int.toNat_natCast, List.head?_drop]; refine hK2 _ ?_; clear hK2)
        (refine DR_last' 21 (by decide +kernel) (by decide +kernel) (by decide +kernel) (by simp only [go_sem, Nat.reduceEqDiff, Nat.reduceLT, Nat.reduceAdd, Nat.reduceLeDiff, Nat.reduceMul, Nat.reduceSub, Int.reduceLE, Int.reduceLT, Int.reduceToNat, Int.reducePow, Int.reduceEq, hlo, cellsN_len, hi1, o1]) ?_; simp only [go_sem, Nat.reduceEqDiff, Nat.reduceLT, Nat.reduceAdd, Nat.reduceLeDiff, Nat.reduceMul, Nat.reduceSub, Int.reduceLE, Int.reduceLT, Int.reduceToNat, Int.reducePow, Int.reduceEq, hlo, cellsN_len, hi1, o1]; refine hK _ _ ?_; clear hK)
        have h3 := h1.setLo (upd s1.low i (min (s1.low i) (s1.num k)))
        have hml3 : (M2.set d.lo (.cells (cellsN n (upd s1.low i (min (s1.low i) (s1.num k)))))).length = M2.length := by simp
        generalize M2.set d.lo (.cells (cellsN n (upd s1.low i (min (s1.low i) (s1.num k))))) = M4 at h3 hml3 ⊢
        (repeat (first | refine W_seq ?_ | refine W_block ?_ | refine W_blk ?_ | refine W_skip ?_))
        (refine W_region [] (by rfl) fun K hK => ?_; simp only [go_sem, Nat.reduceEqDiff, Nat.reduceLT, Nat.reduceAdd, Nat.reduceLeDiff, Nat.reduceMul, Nat.reduceSub, Int.reduceLE, Int.reduceLT, Int.reduceToNat, Int.reducePow, Int.reduceEq, f58, hw1])
        (refine WRun.done _ _ (hK _ _ ?_); clear hK)
        refine W_stop ⟨(j + 1, _, sk2), ⟨by show j + 1 ≤ _; omega, ?_, ?_, ?_, ?_, ?_, h3, hl2, by omega⟩, by show row.length - (j + 1) < row.length - j; omega⟩
        · simp only [go_sem, Nat.reduceEqDiff, Nat.reduceLT, Nat.reduceAdd, Nat.reduceLeDiff, Nat.reduceMul, Nat.reduceSub, Int.reduceLE, Int.reduceLT, Int.reduceToNat, Int.reducePow, Int.reduceEq, f0]
        · simp only [go_sem, Nat.reduceEqDiff, Nat.reduceLT, Nat.reduceAdd, Nat.reduceLeDiff, Nat.reduceMul, Nat.reduceSub, Int.reduceLE, Int.reduceLT, Int.reduceToNat, Int.reducePow, Int.reduceEq, f1]
        · simp only [go_sem, Nat.reduceEqDiff, Nat.reduceLT, Nat.reduceAdd, Nat.reduceLeDiff, Nat.reduceMul, Nat.reduceSub, Int.reduceLE, Int.reduceLT, Int.reduceToNat, Int.reducePow, Int.reduceEq, f56]
        · simp only [go_sem, Nat.reduceEqDiff, Nat.reduceLT, Nat.reduceAdd, Nat.reduceLeDiff, Nat.reduceMul, Nat.reduceSub, Int.reduceLE, Int.reduceLT, Int.reduceToNat, Int.reducePow, Int.reduceEq, f57]
        · simp only [go_sem, Nat.reduceEqDiff, Nat.reduceLT, Nat.reduceAdd, Nat.reduceLeDiff, Nat.reduceMul, Nat.reduceSub, Int.reduceLE, Int.reduceLT, Int.reduceToNat, Int.reducePow, Int.reduceEq]
      | false =>
        (repeat (first | refine W_seq ?_ | refine W_block ?_ | refine W_blk ?_ | refine W_skip ?_))
        refine W_cond_false (by simp only [go_sem, Nat.reduceEqDiff, Nat.reduceLT, Nat.reduceAdd, Nat.reduceLeDiff, Nat.reduceMul, Nat.reduceSub, Int.reduceLE, Int.reduceLT, Int.reduceToNat, Int.reducePow, Int.reduceEq, ho]) ?_
        have hl2 := hlp.seen_off k hk0 ho
        rw [← htk] at hl2
        (repeat (first | refine W_seq ?_ | refine W_block ?_ | refine W_blk ?_ | refine W_skip ?_))
        (refine W_region [] (by rfl) fun K hK => ?_; simp only [go_sem, Nat.reduceEqDiff, Nat.reduceLT, Nat.reduceAdd, Nat.reduceLeDiff, Nat.reduceMul, Nat.reduceSub, Int.reduceLE, Int.reduceLT, Int.reduceToNat, Int.reducePow, Int.reduceEq, f58, hw1])
        (refine WRun.done _ _ (hK _ _ ?_); clear hK)
        refine W_stop ⟨(j + 1, s1, sk2), ⟨by show j + 1 ≤ _; omega, ?_, ?_, ?_, ?_, ?_, h1, hl2, by omega⟩, by show row.length - (j + 1) < row.length - j; omega⟩
        · simp only [go_sem, Nat.reduceEqDiff, Nat.reduceLT, Nat.reduceAdd, Nat.reduceLeDiff, Nat.reduceMul, Nat.reduceSub, Int.reduceLE, Int.reduceLT, Int.reduceToNat, Int.reducePow, Int.reduceEq, f0]
        · simp only [go_sem, Nat.reduceEqDiff, Nat.reduceLT, Nat.reduceAdd, Nat.reduceLeDiff, Nat.reduceMul, Nat.reduceSub, Int.reduceLE, Int.reduceLT, Int.reduceToNat, Int.reducePow, Int.reduceEq, f1]
        · simp only [go_sem, Nat.reduceEqDiff, Nat.reduceLT, Nat.reduceAdd, Nat.reduceLeDiff, Nat.reduceMul, Nat.reduceSub, Int.reduceLE, Int.reduceLT, Int.reduceToNat, Int.reducePow, Int.reduceEq, f56]
        · simp only [go_sem, Nat.reduceEqDiff, Nat.reduceLT, Nat.reduceAdd, Nat.reduceLeDiff, Nat.reduceMul, Nat.reduceSub, Int.reduceLE, Int.reduceLT, Int.reduceToNat, Int.reducePow, Int.reduceEq, f57]
        · simp only [go_sem, Nat.reduceEqDiff, Nat.reduceLT, Nat.reduceAdd, Nat.reduceLeDiff, Nat.reduceMul, Nat.reduceSub, Int.reduceLE, Int.reduceLT, Int.reduceToNat, Int.reducePow, Int.reduceEq]
  · have hlt' : ¬ (j : Int) < (row.length : Int) := by omega
    have hjl : row.take j = row := List.take_of_length_le (by omega)
    rw [hjl] at hlp
    have hpre : ∀ w ∈ adj to i, w ∈ row := fun w hw => by rw [hadj] at hw; exact hw
    have hni := cellsN_at s1.num hi
    have hli := cellsN_at s1.low hi
    (repeat (first | refine W_seq ?_ | refine W_block ?_ | refine W_blk ?_ | refine W_skip ?_))
    (refine W_region [] (by rfl) fun K hK => ?_; simp only [go_sem, Nat.reduceEqDiff, Nat.reduceLT, Nat.reduceAdd, Nat.reduceLeDiff, Nat.reduceMul, Nat.reduceSub, Int.reduceLE, Int.reduceLT, Int.reduceToNat, Int.reducePow, Int.reduceEq, f57, f58, hlt'])
    (refine WRun.done _ _ (hK _ _ ?_); clear hK)
    (repeat (first | refine W_seq ?_ | refine W_block ?_ | refine W_blk ?_ | refine W_skip ?_))
    refine W_cond_false (by simp only [go_sem, Nat.reduceEqDiff, Nat.reduceLT, Nat.reduceAdd, Nat.reduceLeDiff, Nat.reduceMul, Nat.reduceSub, Int.reduceLE, Int.reduceLT, Int.reduceToNat, Int.reducePow, Int.reduceEq]) ?_
    refine W_exit (Qof_code (Qof_stop (Qof_blk_same ?_)))
    by_cases hlow : s1.low i < s1.num i
    · have hlow' : ((s1.low i : Int) < (s1.num i : Int)) = True := eq_true (by omega)
      (repeat (first | refine W_seq ?_ | refine W_block ?_ | refine W_blk ?_ | refine W_skip ?_))
      (refine W_read [] mixed_ (by rfl) (by decide +kernel) (by decide +kernel) fun K2 hK2 => ?_; simp only [go_sem, List.size_toArray, List.range_succ, List.range_zero, QK, Nat.reduceEqDiff, Nat.reduceLT, Nat.reduceAdd, Nat.reduceLeDiff, Nat.reduceMul, Nat.reduceSub, Int.reduceLE, Int.reduceLT, Int.reduceToNat, Int.reducePow, Int.reduceEq, f0, f1, hv, hlo, hnu, hli, hni, hin, hlow', Nat.zero_add, Int.natCast_nonneg, Int.toNat_natCast, List.head?_drop]; refine hK2 _ ?_; clear hK2)
      (repeat (first | refine W_seq ?_ | refine W_block ?_ | refine W_blk ?_ | refine W_skip ?_))
      refine W_cond_true (by simp only [go_sem, Nat.reduceEqDiff, Nat.reduceLT, Nat.reduceAdd, Nat.reduceLeDiff, Nat.reduceMul, Nat.reduceSub, Int.reduceLE, Int.reduceLT, Int.reduceToNat, Int.reducePow, Int.reduceEq]) ?_
      refine W_ret ⟨s1, sk2, h1, hlp.stays hw hpre hlow, hml⟩
    · have hlow' : ((s1.low i : Int) < (s1.num i : Int)) = False := eq_false (by omega)
      (repeat (first | refine W_seq ?_ | refine W_block ?_ | refine W_blk ?_ | refine W_skip ?_))
      (refine W_read [] mixed_ (by rfl) (by decide +kernel) (by decide +kernel) fun K2 hK2 => ?_; simp only [go_sem, List.size_toArray, List.range_succ, List.range_zero, QK, Nat.reduceEqDiff, Nat.reduceLT, Nat.reduceAdd, Nat.reduceLeDiff, Nat.reduceMul, Nat.reduceSub, Int.reduceLE, Int.reduceLT, Int.reduceToNat, Int.reducePow, Int.reduceEq, f0, f1, hv, hlo, hnu, hli, hni, hin, hlow', Nat.zero_add, Int.natCast_nonneg, Int.toNat_natCast, List.head?_drop]; refine hK2 _ ?_; clear hK2)
      (repeat (first | refine W_seq ?_ | refine W_block ?_ | refine W_blk ?_ | refine W_skip ?_))
      refine W_cond_false (by simp only [go_sem, Nat.reduceEqDiff, Nat.reduceLT, Nat.reduceAdd, Nat.reduceLeDiff, Nat.reduceMul, Nat.reduceSub, Int.reduceLE, Int.reduceLT, Int.reduceToNat, Int.reducePow, Int.reduceEq]) ?_
      refine W_skip ?_
      obtain ⟨e, he, _⟩ := hlp.stk
      cases sk2 with
      | none => have := h1.sN rfl; rw [he] at this; simp at this
      | some sk2 =>
      have hgn1 := hlp.wf.gn
      have hnx1 := hlp.wf.nxt
      refine walk_pop h1 s.stk e i he (hlp.wf.inc.imp fun hab hc => by rw [hc] at hab; omega) (fun q hq => by have := (hlp.wf.pos q hq).2.2; omega) (by omega) (by omega) _ ?_ ?_ ?_
      · simp only [go_sem, Nat.reduceEqDiff, Nat.reduceLT, Nat.reduceAdd, Nat.reduceLeDiff, Nat.reduceMul, Nat.reduceSub, Int.reduceLE, Int.reduceLT, Int.reduceToNat, Int.reducePow, Int.reduceEq, f0]
      · simp only [go_sem, Nat.reduceEqDiff, Nat.reduceLT, Nat.reduceAdd, Nat.reduceLeDiff, Nat.reduceMul, Nat.reduceSub, Int.reduceLE, Int.reduceLT, Int.reduceToNat, Int.reducePow, Int.reduceEq, f1]
      clear hv hlo hnu hon
      intro F' M3 f0 h3 hml3
      have hv3 := h3.v
      have hpo := hlp.taken hw hpre hlow (p := i :: e) he (fun _ => Iff.rfl)
      have hwg : IntKind.i64.wrap ((s1.groups : Int) + 1) = ((s1.groups + 1 : Nat) : Int) := by rw [wrapI _ (by omega) (by omega)]; omega
      have hv4 : M3[d.v]? = some (.cells [x, .arr d.lo 0 n 1, .arr d.nu 0 n 1, .arr d.on 0 n 1, wordsV (some sk2) s.stk.length, V.int s1.next, .arr d.gr 0 n 1, V.int s1.groups]) := hv3
      have h4 := h3.setV s1.next (s1.groups + 1)
      (repeat (first | refine W_seq ?_ | refine W_block ?_ | refine W_blk ?_ | refine W_skip ?_))
      (refine W_region [] (by rfl) fun K hK => ?_; simp only [go_sem, Nat.reduceEqDiff, Nat.reduceLT, Nat.reduceAdd, Nat.reduceLeDiff, Nat.reduceMul, Nat.reduceSub, Int.reduceLE, Int.reduceLT, Int.reduceToNat, Int.reducePow, Int.reduceEq, f0, hv4, hwg, Nat.zero_add])
      (refine WRun.done _ _ (hK _ _ ?_); clear hK)
      refine W_nil ⟨_, _, h4, hpo, by simp; omega⟩
end Go.Ax

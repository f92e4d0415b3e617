import Derived.Test.YthbojmoiimknhaaStB
set_option linter.unusedSimpArgs false
set_option linter.unusedVariables false
namespace Go.Ax
open Go.Proofs

def gd (f : Frm) : Bool := decide (1 ≤ f.kind ∧ f.kind ≤ 3 ∧ 0 ≤ f.a ∧ 0 ≤ f.b)

def inI (n : Int) : Prop := -9223372036854775808 ≤ n ∧ n < 9223372036854775808

theorem mapOk {g : Int → Int} {G : List Frm} (h : ∀ f ∈ G, f.ok) : ∀ f ∈ G.map (mapF g), f.ok := by
  intro f hf
  obtain ⟨g, hg, rfl⟩ := List.mem_map.1 hf
  exact mapF_ok (h g hg)

theorem mapF_id (f : Frm) : mapF (fun p => (idC.stp () p).1) f = f := by
  show mapF (fun p => p) f = f
  simp [mapF]

theorem back (n p : Int) (hp : inI p) : IntKind.i64.wrap (IntKind.i64.wrap (p + n) - n) = p := by
  unfold inI at hp
  rw [IntKind.wrap_i64, IntKind.wrap_i64]
  omega

theorem mapF_back (n : Int) (f : Frm) (ha : inI f.a) (hl : ∀ p ∈ f.l, inI p) : mapF (fun p => IntKind.i64.wrap (p - n)) (mapF (fun p => IntKind.i64.wrap (p + n)) f) = f := by
  obtain ⟨kd, a, b, l⟩ := f
  simp only [mapF, List.map_map, Frm.mk.injEq, true_and]
  refine ⟨?_, ?_⟩
  · split
    · exact back n a ha
    · rfl
  · exact (List.map_congr_left (g := id) fun p hp => back n p (hl p hp)).trans (List.map_id _)

theorem run_rev (stp : Unit → Int → Int × Unit) (G : List Frm) : (runFs stp () G.reverse).1.reverse = G.map (mapF fun p => (stp () p).1) := by
  rw [runFs_unit, ← List.map_reverse, List.reverse_reverse]

set_option maxRecDepth 4000 in
set_option maxHeartbeats 4000000 in
theorem maps_ok (fs : List Frm) (by_ : Int) (hby : 0 ≤ by_ ∧ by_ < 256) (hwf : ∀ f ∈ fs, inI f.a ∧ ∀ p ∈ f.l, inI p) (M : AMem) : ACalls Try.prog 5 [.list .dull (fs.map fun f => f.V .dull), .prim (.int .u8 by_)] M (fun r _ => r = V.bool true) := by
  refine acalls_enter [.tmp 4] 191 Try.func5 rfl rfl rfl (by simp) ?_
  (repeat (first | refine W_seq ?_ | refine W_block ?_ | refine W_blk ?_ | refine W_skip ?_))
  (refine W_region [] (by rfl) fun K hK => ?_; simp only [go_sem, Nat.reduceEqDiff, Nat.reduceLT, Nat.reduceAdd, Nat.reduceLeDiff, Nat.reduceMul, Nat.reduceSub, Int.reduceLE, Int.reduceLT, Int.reduceToNat, Int.reducePow, Int.reduceEq])
  (refine WRun.done _ _ (hK _ _ ?_); clear hK)
  (repeat (first | refine W_seq ?_ | refine W_block ?_ | refine W_blk ?_ | refine W_skip ?_))
  by_cases hlen : (30 : Int) < fs.length
  · (refine W_region [] (by rfl) fun K hK => ?_; simp only [go_sem, Nat.reduceEqDiff, Nat.reduceLT, Nat.reduceAdd, Nat.reduceLeDiff, Nat.reduceMul, Nat.reduceSub, Int.reduceLE, Int.reduceLT, Int.reduceToNat, Int.reducePow, Int.reduceEq, hlen])
    refine WRun.call _ _ _ _ _ _ _ (lives_ok _) ?_
    rintro r M1 ⟨rfl, -⟩
    simp only [go_sem, Nat.reduceEqDiff, Nat.reduceLT, Nat.reduceAdd, Nat.reduceLeDiff, Nat.reduceMul, Nat.reduceSub, Int.reduceLE, Int.reduceLT, Int.reduceToNat, Int.reducePow, Int.reduceEq, hlen]
    (refine WRun.done _ _ (hK _ _ ?_); clear hK)
    refine W_cond_true (by simp only [go_sem, Nat.reduceEqDiff, Nat.reduceLT, Nat.reduceAdd, Nat.reduceLeDiff, Nat.reduceMul, Nat.reduceSub, Int.reduceLE, Int.reduceLT, Int.reduceToNat, Int.reducePow, Int.reduceEq]) ?_
    (repeat (first | refine W_seq ?_ | refine W_block ?_ | refine W_blk ?_ | refine W_skip ?_))
    (refine W_region [] (by rfl) fun K hK => ?_; simp only [go_sem, Nat.reduceEqDiff, Nat.reduceLT, Nat.reduceAdd, Nat.reduceLeDiff, Nat.reduceMul, Nat.reduceSub, Int.reduceLE, Int.reduceLT, Int.reduceToNat, Int.reducePow, Int.reduceEq])
    refine WRun.call _ _ _ _ _ _ _ (lives_ok _) ?_
    rintro r M1 ⟨rfl, -⟩
    simp only [go_sem, Nat.reduceEqDiff, Nat.reduceLT, Nat.reduceAdd, Nat.reduceLeDiff, Nat.reduceMul, Nat.reduceSub, Int.reduceLE, Int.reduceLT, Int.reduceToNat, Int.reducePow, Int.reduceEq]
    (refine WRun.done _ _ (hK _ _ ?_); clear hK)
    refine W_ret ?_
    simp only [go_sem, Nat.reduceEqDiff, Nat.reduceLT, Nat.reduceAdd, Nat.reduceLeDiff, Nat.reduceMul, Nat.reduceSub, Int.reduceLE, Int.reduceLT, Int.reduceToNat, Int.reducePow, Int.reduceEq]
  · (refine W_region [] (by rfl) fun K hK => ?_; simp only [go_sem, Nat.reduceEqDiff, Nat.reduceLT, Nat.reduceAdd, Nat.reduceLeDiff, Nat.reduceMul, Nat.reduceSub, Int.reduceLE, Int.reduceLT, Int.reduceToNat, Int.reducePow, Int.reduceEq, hlen])
    refine WRun.call _ _ _ _ _ _ _ (lives_ok _) ?_
    rintro r M1 ⟨rfl, -⟩
    simp only [go_sem, Nat.reduceEqDiff, Nat.reduceLT, Nat.reduceAdd, Nat.reduceLeDiff, Nat.reduceMul, Nat.reduceSub, Int.reduceLE, Int.reduceLT, Int.reduceToNat, Int.reducePow, Int.reduceEq, hlen]
    (refine WRun.done _ _ (hK _ _ ?_); clear hK)
    refine W_cond_false (by simp only [go_sem, Nat.reduceEqDiff, Nat.reduceLT, Nat.reduceAdd, Nat.reduceLeDiff, Nat.reduceMul, Nat.reduceSub, Int.reduceLE, Int.reduceLT, Int.reduceToNat, Int.reducePow, Int.reduceEq]) ?_
    (repeat (first | refine W_seq ?_ | refine W_block ?_ | refine W_blk ?_ | refine W_skip ?_))
    (refine W_region [] (by rfl) fun K hK => ?_; simp only [go_sem, Nat.reduceEqDiff, Nat.reduceLT, Nat.reduceAdd, Nat.reduceLeDiff, Nat.reduceMul, Nat.reduceSub, Int.reduceLE, Int.reduceLT, Int.reduceToNat, Int.reducePow, Int.reduceEq])
    refine WRun.call _ _ _ _ _ _ _ (new_ok 8000 _) ?_
    intro r M2 h2
    rw [if_neg (by omega)] at h2
    obtain ⟨rfl, rfl⟩ := h2
    simp only [go_sem, Nat.reduceEqDiff, Nat.reduceLT, Nat.reduceAdd, Nat.reduceLeDiff, Nat.reduceMul, Nat.reduceSub, Int.reduceLE, Int.reduceLT, Int.reduceToNat, Int.reducePow, Int.reduceEq]
    (refine WRun.done _ _ (hK _ _ ?_); clear hK)
    (repeat (first | refine W_seq ?_ | refine W_block ?_ | refine W_blk ?_ | refine W_skip ?_ | (refine W_region [] (by rfl) fun K hK => ?_; simp only [go_sem, Nat.reduceEqDiff, Nat.reduceLT, Nat.reduceAdd, Nat.reduceLeDiff, Nat.reduceMul, Nat.reduceSub, Int.reduceLE, Int.reduceLT, Int.reduceToNat, Int.reducePow, Int.reduceEq]; refine WRun.done _ _ (hK _ _ ?_); clear hK)))
    have hS0 : StackAt (M1 ++ [AObj.cells [V.list Tag.full [], V.int 8000]]) M1.length 8000 (encL []) none := ⟨by simp [wordsV, encL], fun _ => rfl, fun k' h => by cases h⟩
    generalize hi0 : M1.length = i at hS0
    generalize M1 ++ [AObj.cells [V.list Tag.full [], V.int 8000]] = M2 at hS0
    refine W_loop (α := Nat) (fun n F M' => n ≤ fs.length ∧ ∃ k, look F 1 = .prim (.int .u8 by_) ∧ look F 5 = .ptr i 0 ∧ look F 29 = .list .dull (fs.map fun f => f.V .dull) ∧ look F 30 = V.int fs.length ∧ look F 31 = V.int n ∧ (∀ f ∈ fs.take n, f.l.length ≤ 100) ∧
      StackAt M' i 8000 (encL ((fs.take n).filter gd)) k) (fun n => fs.length - n) 0 ⟨Nat.zero_le _, none, ?_, ?_, ?_, ?_, ?_, by simp, hS0⟩ ?_
    · simp only [go_sem, Nat.reduceEqDiff, Nat.reduceLT, Nat.reduceAdd, Nat.reduceLeDiff, Nat.reduceMul, Nat.reduceSub, Int.reduceLE, Int.reduceLT, Int.reduceToNat, Int.reducePow, Int.reduceEq]
    · simp only [go_sem, Nat.reduceEqDiff, Nat.reduceLT, Nat.reduceAdd, Nat.reduceLeDiff, Nat.reduceMul, Nat.reduceSub, Int.reduceLE, Int.reduceLT, Int.reduceToNat, Int.reducePow, Int.reduceEq, hi0]
    · simp only [go_sem, Nat.reduceEqDiff, Nat.reduceLT, Nat.reduceAdd, Nat.reduceLeDiff, Nat.reduceMul, Nat.reduceSub, Int.reduceLE, Int.reduceLT, Int.reduceToNat, Int.reducePow, Int.reduceEq]
    · simp only [go_sem, Nat.reduceEqDiff, Nat.reduceLT, Nat.reduceAdd, Nat.reduceLeDiff, Nat.reduceMul, Nat.reduceSub, Int.reduceLE, Int.reduceLT, Int.reduceToNat, Int.reducePow, Int.reduceEq]
    · simp only [go_sem, Nat.reduceEqDiff, Nat.reduceLT, Nat.reduceAdd, Nat.reduceLeDiff, Nat.reduceMul, Nat.reduceSub, Int.reduceLE, Int.reduceLT, Int.reduceToNat, Int.reducePow, Int.reduceEq]
    rintro n F M' ⟨hn, k, f1, f5, f29, f30, f31, h100, hS⟩
    have hsz : (encL ((fs.take n).filter gd)).length ≤ 103 * n := by
      have : ∀ l : List Frm, (∀ f ∈ l, f.l.length ≤ 100) → (encL (l.filter gd)).length ≤ 103 * l.length := by
        intro l
        induction l with
        | nil => simp [encL]
        | cons f l ih =>
          intro h
          have h1 := ih fun g hg => h g (by simp [hg])
          have h2 := h f (by simp)
          rw [List.filter_cons]
          split
          · simp only [encL, List.flatMap_cons, List.length_append, enc_length, List.length_cons] at *; omega
          · simp only [List.length_cons]; omega
      have h1 := this (fs.take n) h100
      simp only [List.length_take] at h1
      omega
    by_cases hlt : n < fs.length
    · have hlt' : (n : Int) < (fs.length : Int) := by omega
      have hw : IntKind.i64.wrap ((n : Int) + 1) = ((n + 1 : Nat) : Int) := by rw [wrapI _ (by omega) (by omega)]; omega
      obtain ⟨f, hf⟩ : ∃ f, fs[n]? = some f := ⟨fs[n], by simp [hlt]⟩
      have hf2 : (fs.map fun f => f.V .dull)[n]? = some (.agg [.int f.kind, .int f.a, .int f.b, .list .dull (f.l.map .int)]) := by simp [hf, Frm.V]
      (repeat (first | refine W_seq ?_ | refine W_block ?_ | refine W_blk ?_ | refine W_skip ?_ | (refine W_region [] (by rfl) fun K hK => ?_; simp only [go_sem, Nat.reduceEqDiff, Nat.reduceLT, Nat.reduceAdd, Nat.reduceLeDiff, Nat.reduceMul, Nat.reduceSub, Int.reduceLE, Int.reduceLT, Int.reduceToNat, Int.reducePow, Int.reduceEq, f30, f31, hlt']; refine WRun.done _ _ (hK _ _ ?_); clear hK)))
      refine W_cond_true (by simp only [go_sem, Nat.reduceEqDiff, Nat.reduceLT, Nat.reduceAdd, Nat.reduceLeDiff, Nat.reduceMul, Nat.reduceSub, Int.reduceLE, Int.reduceLT, Int.reduceToNat, Int.reducePow, Int.reduceEq]) ?_
      (repeat (first | refine W_seq ?_ | refine W_block ?_ | refine W_blk ?_ | refine W_skip ?_ | (refine W_region [] (by rfl) fun K hK => ?_; simp only [go_sem, Nat.reduceEqDiff, Nat.reduceLT, Nat.reduceAdd, Nat.reduceLeDiff, Nat.reduceMul, Nat.reduceSub, Int.reduceLE, Int.reduceLT, Int.reduceToNat, Int.reducePow, Int.reduceEq, f29, f31, hf2, Int.natCast_nonneg, Int.toNat_natCast]; refine WRun.done _ _ (hK _ _ ?_); clear hK)))
      by_cases h1 : (100 : Int) < f.l.length
      · refine W_cond_true (by simp only [go_sem, Nat.reduceEqDiff, Nat.reduceLT, Nat.reduceAdd, Nat.reduceLeDiff, Nat.reduceMul, Nat.reduceSub, Int.reduceLE, Int.reduceLT, Int.reduceToNat, Int.reducePow, Int.reduceEq, h1]) ?_
        (repeat (first | refine W_seq ?_ | refine W_block ?_ | refine W_blk ?_ | refine W_skip ?_ | (refine W_region [] (by rfl) fun K hK => ?_; simp only [go_sem, Nat.reduceEqDiff, Nat.reduceLT, Nat.reduceAdd, Nat.reduceLeDiff, Nat.reduceMul, Nat.reduceSub, Int.reduceLE, Int.reduceLT, Int.reduceToNat, Int.reducePow, Int.reduceEq]; refine WRun.done _ _ (hK _ _ ?_); clear hK)))
        refine W_ret ?_
        simp only [go_sem, Nat.reduceEqDiff, Nat.reduceLT, Nat.reduceAdd, Nat.reduceLeDiff, Nat.reduceMul, Nat.reduceSub, Int.reduceLE, Int.reduceLT, Int.reduceToNat, Int.reducePow, Int.reduceEq]
      · refine W_cond_false (by simp only [go_sem, Nat.reduceEqDiff, Nat.reduceLT, Nat.reduceAdd, Nat.reduceLeDiff, Nat.reduceMul, Nat.reduceSub, Int.reduceLE, Int.reduceLT, Int.reduceToNat, Int.reducePow, Int.reduceEq, h1]) ?_
        have hS1 : StackAt (M' ++ [AObj.cells [V.int f.kind, V.int f.a, V.int f.b, V.list Tag.dull (f.l.map V.int)]]) i 8000 (encL ((fs.take n).filter gd)) k := hS.keeps (Keeps.append _ _)
        have hnext : ∀ (k' : Option Nat) (F' : Fr) (M'' : AMem), look F' 1 = look F 1 → look F' 5 = look F 5 → look F' 29 = look F 29 → look F' 30 = look F 30 → look F' 31 = look F 31 → StackAt M'' i 8000 (encL ((fs.take (n + 1)).filter gd)) k' →
            (∃ x', (x' ≤ fs.length ∧ ∃ k, look ((31, V.int ((n + 1 : Nat) : Int)) :: (42, V.int ((n + 1 : Nat) : Int)) :: F') 1 = .prim (.int .u8 by_) ∧ look ((31, V.int ((n + 1 : Nat) : Int)) :: (42, V.int ((n + 1 : Nat) : Int)) :: F') 5 = .ptr i 0 ∧
              look ((31, V.int ((n + 1 : Nat) : Int)) :: (42, V.int ((n + 1 : Nat) : Int)) :: F') 29 = .list .dull (fs.map fun f => f.V .dull) ∧ look ((31, V.int ((n + 1 : Nat) : Int)) :: (42, V.int ((n + 1 : Nat) : Int)) :: F') 30 = V.int fs.length ∧
              look ((31, V.int ((n + 1 : Nat) : Int)) :: (42, V.int ((n + 1 : Nat) : Int)) :: F') 31 = V.int (x' : Nat) ∧ (∀ f ∈ fs.take x', f.l.length ≤ 100) ∧ StackAt M'' i 8000 (encL ((fs.take x').filter gd)) k) ∧ fs.length - x' < fs.length - n) := by
          intro k' F' M'' g1 g5 g29 g30 g31 hS'
          refine ⟨n + 1, ⟨by omega, k', ?_, ?_, ?_, ?_, ?_, ?_, hS'⟩, by omega⟩
          · simp only [go_sem, Nat.reduceEqDiff, Nat.reduceLT, Nat.reduceAdd, Nat.reduceLeDiff, Nat.reduceMul, Nat.reduceSub, Int.reduceLE, Int.reduceLT, Int.reduceToNat, Int.reducePow, Int.reduceEq, g1, f1]
          · simp only [go_sem, Nat.reduceEqDiff, Nat.reduceLT, Nat.reduceAdd, Nat.reduceLeDiff, Nat.reduceMul, Nat.reduceSub, Int.reduceLE, Int.reduceLT, Int.reduceToNat, Int.reducePow, Int.reduceEq, g5, f5]
          · simp only [go_sem, Nat.reduceEqDiff, Nat.reduceLT, Nat.reduceAdd, Nat.reduceLeDiff, Nat.reduceMul, Nat.reduceSub, Int.reduceLE, Int.reduceLT, Int.reduceToNat, Int.reducePow, Int.reduceEq, g29, f29]
          · simp only [go_sem, Nat.reduceEqDiff, Nat.reduceLT, Nat.reduceAdd, Nat.reduceLeDiff, Nat.reduceMul, Nat.reduceSub, Int.reduceLE, Int.reduceLT, Int.reduceToNat, Int.reducePow, Int.reduceEq, g30, f30]
          · simp only [go_sem, Nat.reduceEqDiff, Nat.reduceLT, Nat.reduceAdd, Nat.reduceLeDiff, Nat.reduceMul, Nat.reduceSub, Int.reduceLE, Int.reduceLT, Int.reduceToNat, Int.reducePow, Int.reduceEq]
          · intro g hg
            rw [List.take_add_one, hf] at hg
            simp at hg
            rcases hg with hg | rfl
            · exact h100 g hg
            · omega
        have htk : fs.take (n + 1) = fs.take n ++ [f] := by rw [List.take_add_one, hf]; rfl
        (repeat (first | refine W_seq ?_ | refine W_block ?_ | refine W_blk ?_ | refine W_skip ?_))
        (refine W_region [] (by rfl) fun K hK => ?_; simp only [go_sem, Nat.reduceEqDiff, Nat.reduceLT, Nat.reduceAdd, Nat.reduceLeDiff, Nat.reduceMul, Nat.reduceSub, Int.reduceLE, Int.reduceLT, Int.reduceToNat, Int.reducePow, Int.reduceEq, f5])
        by_cases hb : bad f.kind f.a f.b f.l.length
        · refine WRun.call _ _ _ _ _ _ _ (push_bad _ i _ _ _ _ f.l (.inl ⟨_, rfl⟩) hb) ?_
          rintro r M3 ⟨rfl, rfl⟩
          simp only [go_sem, Nat.reduceEqDiff, Nat.reduceLT, Nat.reduceAdd, Nat.reduceLeDiff, Nat.reduceMul, Nat.reduceSub, Int.reduceLE, Int.reduceLT, Int.reduceToNat, Int.reducePow, Int.reduceEq]
          (refine WRun.done _ _ (hK _ _ ?_); clear hK)
          (repeat (first | refine W_seq ?_ | refine W_block ?_ | refine W_blk ?_ | refine W_skip ?_ | (refine W_region [] (by rfl) fun K hK => ?_; simp only [go_sem, Nat.reduceEqDiff, Nat.reduceLT, Nat.reduceAdd, Nat.reduceLeDiff, Nat.reduceMul, Nat.reduceSub, Int.reduceLE, Int.reduceLT, Int.reduceToNat, Int.reducePow, Int.reduceEq, f31, hw]; refine WRun.done _ _ (hK _ _ ?_); clear hK)))
          refine W_stop (hnext k _ _ ?_ ?_ ?_ ?_ ?_ ?_)
          · simp only [go_sem, Nat.reduceEqDiff, Nat.reduceLT, Nat.reduceAdd, Nat.reduceLeDiff, Nat.reduceMul, Nat.reduceSub, Int.reduceLE, Int.reduceLT, Int.reduceToNat, Int.reducePow, Int.reduceEq]
          · simp only [go_sem, Nat.reduceEqDiff, Nat.reduceLT, Nat.reduceAdd, Nat.reduceLeDiff, Nat.reduceMul, Nat.reduceSub, Int.reduceLE, Int.reduceLT, Int.reduceToNat, Int.reducePow, Int.reduceEq]
          · simp only [go_sem, Nat.reduceEqDiff, Nat.reduceLT, Nat.reduceAdd, Nat.reduceLeDiff, Nat.reduceMul, Nat.reduceSub, Int.reduceLE, Int.reduceLT, Int.reduceToNat, Int.reducePow, Int.reduceEq]
          · simp only [go_sem, Nat.reduceEqDiff, Nat.reduceLT, Nat.reduceAdd, Nat.reduceLeDiff, Nat.reduceMul, Nat.reduceSub, Int.reduceLE, Int.reduceLT, Int.reduceToNat, Int.reducePow, Int.reduceEq]
          · simp only [go_sem, Nat.reduceEqDiff, Nat.reduceLT, Nat.reduceAdd, Nat.reduceLeDiff, Nat.reduceMul, Nat.reduceSub, Int.reduceLE, Int.reduceLT, Int.reduceToNat, Int.reducePow, Int.reduceEq]
          · rw [htk, List.filter_append]
            have : gd f = false := by
              simp only [gd, decide_eq_false_iff_not]
              intro h
              unfold bad at hb
              omega
            simpa [this] using hS1
        · have hbb := hb
          unfold bad at hbb
          refine WRun.call _ _ _ _ _ _ _ (push_done _ i 8000 _ k _ _ _ _ f.l hS1 (by omega) (.inl ⟨_, rfl⟩) hb (by omega)) ?_
          rintro r M3 ⟨rfl, hS3, -, -⟩
          simp only [go_sem, Nat.reduceEqDiff, Nat.reduceLT, Nat.reduceAdd, Nat.reduceLeDiff, Nat.reduceMul, Nat.reduceSub, Int.reduceLE, Int.reduceLT, Int.reduceToNat, Int.reducePow, Int.reduceEq]
          (refine WRun.done _ _ (hK _ _ ?_); clear hK)
          (repeat (first | refine W_seq ?_ | refine W_block ?_ | refine W_blk ?_ | refine W_skip ?_ | (refine W_region [] (by rfl) fun K hK => ?_; simp only [go_sem, Nat.reduceEqDiff, Nat.reduceLT, Nat.reduceAdd, Nat.reduceLeDiff, Nat.reduceMul, Nat.reduceSub, Int.reduceLE, Int.reduceLT, Int.reduceToNat, Int.reducePow, Int.reduceEq, f31, hw]; refine WRun.done _ _ (hK _ _ ?_); clear hK)))
          refine W_stop (hnext (some ((M' ++ [AObj.cells [V.int f.kind, V.int f.a, V.int f.b, V.list Tag.dull (f.l.map V.int)]]).length + 1)) _ _ ?_ ?_ ?_ ?_ ?_ ?_)
          · simp only [go_sem, Nat.reduceEqDiff, Nat.reduceLT, Nat.reduceAdd, Nat.reduceLeDiff, Nat.reduceMul, Nat.reduceSub, Int.reduceLE, Int.reduceLT, Int.reduceToNat, Int.reducePow, Int.reduceEq]
          · simp only [go_sem, Nat.reduceEqDiff, Nat.reduceLT, Nat.reduceAdd, Nat.reduceLeDiff, Nat.reduceMul, Nat.reduceSub, Int.reduceLE, Int.reduceLT, Int.reduceToNat, Int.reducePow, Int.reduceEq]
          · simp only [go_sem, Nat.reduceEqDiff, Nat.reduceLT, Nat.reduceAdd, Nat.reduceLeDiff, Nat.reduceMul, Nat.reduceSub, Int.reduceLE, Int.reduceLT, Int.reduceToNat, Int.reducePow, Int.reduceEq]
          · simp only [go_sem, Nat.reduceEqDiff, Nat.reduceLT, Nat.reduceAdd, Nat.reduceLeDiff, Nat.reduceMul, Nat.reduceSub, Int.reduceLE, Int.reduceLT, Int.reduceToNat, Int.reducePow, Int.reduceEq]
          · simp only [go_sem, Nat.reduceEqDiff, Nat.reduceLT, Nat.reduceAdd, Nat.reduceLeDiff, Nat.reduceMul, Nat.reduceSub, Int.reduceLE, Int.reduceLT, Int.reduceToNat, Int.reducePow, Int.reduceEq]
          · rw [htk, List.filter_append]
            have : gd f = true := by
              simp only [gd, decide_eq_true_eq]
              omega
            rw [List.filter_cons_of_pos this, List.filter_nil, encL_snoc]
            rw [List.append_assoc] at hS3
            exact hS3
    · have hlt' : ¬ (n : Int) < (fs.length : Int) := by omega
      have hne : n = fs.length := by omega
      subst hne
      rw [List.take_length] at hS h100 hsz
      (repeat (first | refine W_seq ?_ | refine W_block ?_ | refine W_blk ?_ | refine W_skip ?_ | (refine W_region [] (by rfl) fun K hK => ?_; simp only [go_sem, Nat.reduceEqDiff, Nat.reduceLT, Nat.reduceAdd, Nat.reduceLeDiff, Nat.reduceMul, Nat.reduceSub, Int.reduceLE, Int.reduceLT, Int.reduceToNat, Int.reducePow, Int.reduceEq, f30, f31, hlt']; refine WRun.done _ _ (hK _ _ ?_); clear hK)))
      refine W_cond_false (by simp only [go_sem, Nat.reduceEqDiff, Nat.reduceLT, Nat.reduceAdd, Nat.reduceLeDiff, Nat.reduceMul, Nat.reduceSub, Int.reduceLE, Int.reduceLT, Int.reduceToNat, Int.reducePow, Int.reduceEq]) ?_
      refine W_exit (Qof_code (Qof_stop (Qof_blk_same ?_)))
      have hGok : ∀ f ∈ fs.filter gd, f.ok := by
        intro f hf
        have h1 := List.mem_filter.1 hf
        have h2 := h100 f h1.1
        simp only [gd, decide_eq_true_eq] at h1
        exact ⟨h1.2.1, h1.2.2.1, by omega⟩
      have hGin : ∀ f ∈ fs.filter gd, inI f.a ∧ ∀ p ∈ f.l, inI p := fun f hf => hwf f (List.mem_filter.1 hf).1
      have hGl : ∀ f ∈ fs.filter gd, f.l.length ≤ 100 := fun f hf => h100 f (List.mem_filter.1 hf).1
      have hGn : (fs.filter gd).length ≤ 30 := Nat.le_trans (List.length_filter_le _ _) (by omega)
      generalize fs.filter gd = G at hS hGok hGin hGl hsz hGn
      clear f29 f30 f31
      have hcv : IntKind.i64.wrap by_ = by_ := wrapI _ (by omega) (by omega)
      have hGr : ∀ f ∈ G, f.ok := hGok
      (repeat (first | refine W_seq ?_ | refine W_block ?_ | refine W_blk ?_ | refine W_skip ?_ | (refine W_region [] (by rfl) fun K hK => ?_; simp only [go_sem, Nat.reduceEqDiff, Nat.reduceLT, Nat.reduceAdd, Nat.reduceLeDiff, Nat.reduceMul, Nat.reduceSub, Int.reduceLE, Int.reduceLT, Int.reduceToNat, Int.reducePow, Int.reduceEq, f1, hcv]; refine WRun.done _ _ (hK _ _ ?_); clear hK)))
      have hw0 : (encL G).length ≤ 1000000 := by have := hsz; omega
      have hS1 := hS.keeps (Keeps.append M' [AObj.cells [V.int by_]])
      have h9 : (M' ++ [AObj.cells [V.int by_]])[M'.length]? = some (.cells [V.int by_]) := by simp
      have hi9 : i ≠ M'.length := by have := (List.getElem?_eq_some_iff.1 hS.cells).1; omega
      have hk9 : k ≠ some M'.length := by
        rintro rfl
        obtain ⟨_, cs, h, _⟩ := hS.some _ rfl
        have := (List.getElem?_eq_some_iff.1 h).1; omega
      generalize M'.length = c9 at h9 hi9 hk9
      generalize M' ++ [AObj.cells [V.int by_]] = Ma at hS1 h9
      (repeat (first | refine W_seq ?_ | refine W_block ?_ | refine W_blk ?_ | refine W_skip ?_))
      (refine W_region [] (by rfl) fun K hK => ?_; simp only [go_sem, Nat.reduceEqDiff, Nat.reduceLT, Nat.reduceAdd, Nat.reduceLeDiff, Nat.reduceMul, Nat.reduceSub, Int.reduceLE, Int.reduceLT, Int.reduceToNat, Int.reducePow, Int.reduceEq, f5])
      refine WRun.call _ _ _ _ _ _ _ (frames_ok Ma i 8000 k G hS1 hGok hw0) ?_
      rintro r Mb ⟨⟨tga, xa, rfl, hxa⟩, hKb⟩
      simp only [go_sem, Nat.reduceEqDiff, Nat.reduceLT, Nat.reduceAdd, Nat.reduceLeDiff, Nat.reduceMul, Nat.reduceSub, Int.reduceLE, Int.reduceLT, Int.reduceToNat, Int.reducePow, Int.reduceEq]
      (refine WRun.done _ _ (hK _ _ ?_); clear hK)
      have hKc := hKb.trans (Keeps.append Mb [AObj.cells [V.list tga xa]])
      have hS2 := hS1.keeps hKc
      have h9c : (Mb ++ [AObj.cells [V.list tga xa]])[c9]? = some (.cells [V.int by_]) := by rw [hKc.2 _ (List.getElem?_eq_some_iff.1 h9).1]; exact h9
      have h10 : (Mb ++ [AObj.cells [V.list tga xa]])[Mb.length]? = some (.cells [V.list tga xa]) := by simp
      have hi10 : i ≠ Mb.length := by have := (List.getElem?_eq_some_iff.1 hS1.cells).1; have := hKb.1; omega
      have hk10 : k ≠ some Mb.length := by
        rintro rfl
        obtain ⟨_, cs, h, _⟩ := hS1.some _ rfl
        have := (List.getElem?_eq_some_iff.1 h).1; have := hKb.1; omega
      have h910 : c9 ≠ Mb.length := by have := (List.getElem?_eq_some_iff.1 h9).1; have := hKb.1; omega
      generalize Mb.length = c10 at h10 hi10 hk10 h910
      generalize Mb ++ [AObj.cells [V.list tga xa]] = Mc at hKc hS2 h9c h10
      (repeat (first | refine W_seq ?_ | refine W_block ?_ | refine W_blk ?_ | refine W_skip ?_))
      (refine W_region [] (by rfl) fun K hK => ?_; simp only [go_sem, Nat.reduceEqDiff, Nat.reduceLT, Nat.reduceAdd, Nat.reduceLeDiff, Nat.reduceMul, Nat.reduceSub, Int.reduceLE, Int.reduceLT, Int.reduceToNat, Int.reducePow, Int.reduceEq, f5])
      refine WRun.call _ _ _ _ _ _ _ (map_ok idC Mc i 8000 k G () hS2 hGok hw0 trivial (fun h => h) (fun _ _ h => h) (by show 0 + _ ≤ _; omega)) ?_
      rintro r Md ⟨hSd, hGd⟩
      rw [run_rev] at hSd
      have h9l : c9 < Mc.length := (List.getElem?_eq_some_iff.1 h9c).1
      have h10l : c10 < Mc.length := (List.getElem?_eq_some_iff.1 h10).1
      have h9d : Md[c9]? = some (.cells [V.int by_]) := by rw [hGd.keep c9 h9l hk9 (fun h => h)]; exact h9c
      have h10d : Md[c10]? = some (.cells [V.list tga xa]) := by rw [hGd.keep c10 h10l hk10 (fun h => h)]; exact h10
      clear hGd hKc hS2 h9c h10 h9l h10l
      simp only [go_sem, Nat.reduceEqDiff, Nat.reduceLT, Nat.reduceAdd, Nat.reduceLeDiff, Nat.reduceMul, Nat.reduceSub, Int.reduceLE, Int.reduceLT, Int.reduceToNat, Int.reducePow, Int.reduceEq]
      (refine WRun.done _ _ (hK _ _ ?_); clear hK)
      (repeat (first | refine W_seq ?_ | refine W_block ?_ | refine W_blk ?_ | refine W_skip ?_))
      (refine W_region [] (by rfl) fun K hK => ?_; simp only [go_sem, Nat.reduceEqDiff, Nat.reduceLT, Nat.reduceAdd, Nat.reduceLeDiff, Nat.reduceMul, Nat.reduceSub, Int.reduceLE, Int.reduceLT, Int.reduceToNat, Int.reducePow, Int.reduceEq, f5])
      refine WRun.call _ _ _ _ _ _ _ (frames_ok Md i 8000 k _ hSd (mapOk hGok) (by rw [mapF_enc]; exact hw0)) ?_
      rintro r Me ⟨⟨tgb, xb, rfl, hxb⟩, hKe⟩
      have hSe := hSd.keeps hKe
      have h9e : Me[c9]? = some (.cells [V.int by_]) := by rw [hKe.2 _ (List.getElem?_eq_some_iff.1 h9d).1]; exact h9d
      have h10e : Me[c10]? = some (.cells [V.list tga xa]) := by rw [hKe.2 _ (List.getElem?_eq_some_iff.1 h10d).1]; exact h10d
      simp only [go_sem, Nat.reduceEqDiff, Nat.reduceLT, Nat.reduceAdd, Nat.reduceLeDiff, Nat.reduceMul, Nat.reduceSub, Int.reduceLE, Int.reduceLT, Int.reduceToNat, Int.reducePow, Int.reduceEq]
      (refine WRun.done _ _ (hK _ _ ?_); clear hK)
      (repeat (first | refine W_seq ?_ | refine W_block ?_ | refine W_blk ?_ | refine W_skip ?_))
      (refine W_region [] (by rfl) fun K hK => ?_; simp only [go_sem, Nat.reduceEqDiff, Nat.reduceLT, Nat.reduceAdd, Nat.reduceLeDiff, Nat.reduceMul, Nat.reduceSub, Int.reduceLE, Int.reduceLT, Int.reduceToNat, Int.reducePow, Int.reduceEq, f5])
      refine WRun.call _ _ _ _ _ _ _ (map_ok (addC c9 by_) Me i 8000 k _ () hSe (mapOk hGok) (by rw [mapF_enc]; exact hw0) h9e hi9 (fun k' e h => hk9 (by rw [e]; exact congrArg some h)) (by show 0 + _ ≤ _; rw [mapF_enc]; omega)) ?_
      rintro r Mf ⟨hSf, hGf⟩
      rw [run_rev] at hSf
      have h9f : Mf[c9]? = some (.cells [V.int by_]) := hGf.inv
      have h10f : Mf[c10]? = some (.cells [V.list tga xa]) := by rw [hGf.keep c10 (List.getElem?_eq_some_iff.1 h10e).1 hk10 (fun h => h910 h.symm)]; exact h10e
      clear hGf hKe hSd hSe h9d h10d h9e h10e
      simp only [go_sem, Nat.reduceEqDiff, Nat.reduceLT, Nat.reduceAdd, Nat.reduceLeDiff, Nat.reduceMul, Nat.reduceSub, Int.reduceLE, Int.reduceLT, Int.reduceToNat, Int.reducePow, Int.reduceEq]
      (refine WRun.done _ _ (hK _ _ ?_); clear hK)
      (repeat (first | refine W_seq ?_ | refine W_block ?_ | refine W_blk ?_ | refine W_skip ?_))
      (refine W_region [] (by rfl) fun K hK => ?_; simp only [go_sem, Nat.reduceEqDiff, Nat.reduceLT, Nat.reduceAdd, Nat.reduceLeDiff, Nat.reduceMul, Nat.reduceSub, Int.reduceLE, Int.reduceLT, Int.reduceToNat, Int.reducePow, Int.reduceEq, f5])
      refine WRun.call _ _ _ _ _ _ _ (frames_ok Mf i 8000 k _ hSf (mapOk (mapOk hGok)) (by rw [mapF_enc, mapF_enc]; exact hw0)) ?_
      rintro r Mg ⟨⟨tgc, xc, rfl, hxc⟩, hKg⟩
      have hSg := hSf.keeps hKg
      have h9g : Mg[c9]? = some (.cells [V.int by_]) := by rw [hKg.2 _ (List.getElem?_eq_some_iff.1 h9f).1]; exact h9f
      have h10g : Mg[c10]? = some (.cells [V.list tga xa]) := by rw [hKg.2 _ (List.getElem?_eq_some_iff.1 h10f).1]; exact h10f
      simp only [go_sem, Nat.reduceEqDiff, Nat.reduceLT, Nat.reduceAdd, Nat.reduceLeDiff, Nat.reduceMul, Nat.reduceSub, Int.reduceLE, Int.reduceLT, Int.reduceToNat, Int.reducePow, Int.reduceEq]
      (refine WRun.done _ _ (hK _ _ ?_); clear hK)
      (repeat (first | refine W_seq ?_ | refine W_block ?_ | refine W_blk ?_ | refine W_skip ?_))
      (refine W_region [] (by rfl) fun K hK => ?_; simp only [go_sem, Nat.reduceEqDiff, Nat.reduceLT, Nat.reduceAdd, Nat.reduceLeDiff, Nat.reduceMul, Nat.reduceSub, Int.reduceLE, Int.reduceLT, Int.reduceToNat, Int.reducePow, Int.reduceEq, f5])
      refine WRun.call _ _ _ _ _ _ _ (map_ok (subC c9 by_) Mg i 8000 k _ () hSg (mapOk (mapOk hGok)) (by rw [mapF_enc, mapF_enc]; exact hw0) h9g hi9 (fun k' e h => hk9 (by rw [e]; exact congrArg some h)) (by show 0 + _ ≤ _; rw [mapF_enc, mapF_enc]; omega)) ?_
      rintro r Mh ⟨hSh, hGh⟩
      rw [run_rev] at hSh
      have h9h : Mh[c9]? = some (.cells [V.int by_]) := hGh.inv
      have h10h : Mh[c10]? = some (.cells [V.list tga xa]) := by rw [hGh.keep c10 (List.getElem?_eq_some_iff.1 h10g).1 hk10 (fun h => h910 h.symm)]; exact h10g
      clear hGh hKg hSf hSg h9f h10f h9g h10g
      simp only [go_sem, Nat.reduceEqDiff, Nat.reduceLT, Nat.reduceAdd, Nat.reduceLeDiff, Nat.reduceMul, Nat.reduceSub, Int.reduceLE, Int.reduceLT, Int.reduceToNat, Int.reducePow, Int.reduceEq]
      (refine WRun.done _ _ (hK _ _ ?_); clear hK)
      (repeat (first | refine W_seq ?_ | refine W_block ?_ | refine W_blk ?_ | refine W_skip ?_))
      (refine W_region [] (by rfl) fun K hK => ?_; simp only [go_sem, Nat.reduceEqDiff, Nat.reduceLT, Nat.reduceAdd, Nat.reduceLeDiff, Nat.reduceMul, Nat.reduceSub, Int.reduceLE, Int.reduceLT, Int.reduceToNat, Int.reducePow, Int.reduceEq, f5])
      refine WRun.call _ _ _ _ _ _ _ (frames_ok Mh i 8000 k _ hSh (mapOk (mapOk (mapOk hGok))) (by rw [mapF_enc, mapF_enc, mapF_enc]; exact hw0)) ?_
      rintro r Mi ⟨⟨tgd, xd, rfl, hxd⟩, hKi⟩
      have h9i : Mi[c9]? = some (.cells [V.int by_]) := by rw [hKi.2 _ (List.getElem?_eq_some_iff.1 h9h).1]; exact h9h
      have h10i : Mi[c10]? = some (.cells [V.list tga xa]) := by rw [hKi.2 _ (List.getElem?_eq_some_iff.1 h10h).1]; exact h10h
      simp only [go_sem, Nat.reduceEqDiff, Nat.reduceLT, Nat.reduceAdd, Nat.reduceLeDiff, Nat.reduceMul, Nat.reduceSub, Int.reduceLE, Int.reduceLT, Int.reduceToNat, Int.reducePow, Int.reduceEq]
      (refine WRun.done _ _ (hK _ _ ?_); clear hK)
      clear hKi hSh h9h h10h hS hS1 h9
      have hla : xa.length = G.length := by rw [hxa.length]; simp
      have hlb : xb.length = G.length := by rw [hxb.length]; simp
      have hlc : xc.length = G.length := by rw [hxc.length]; simp
      have hld : xd.length = G.length := by rw [hxd.length]; simp
      (repeat (first | refine W_seq ?_ | refine W_block ?_ | refine W_blk ?_ | refine W_skip ?_ | (refine W_region [] (by rfl) fun K hK => ?_; simp only [go_sem, Nat.reduceEqDiff, Nat.reduceLT, Nat.reduceAdd, Nat.reduceLeDiff, Nat.reduceMul, Nat.reduceSub, Int.reduceLE, Int.reduceLT, Int.reduceToNat, Int.reducePow, Int.reduceEq, h10i, hla, hlb, hlc, hld]; refine WRun.done _ _ (hK _ _ ?_); clear hK)))
      refine W_cond_false (by simp only [go_sem, Nat.reduceEqDiff, Nat.reduceLT, Nat.reduceAdd, Nat.reduceLeDiff, Nat.reduceMul, Nat.reduceSub, Int.reduceLE, Int.reduceLT, Int.reduceToNat, Int.reducePow, Int.reduceEq]) ?_
      (repeat (first | refine W_seq ?_ | refine W_block ?_ | refine W_blk ?_ | refine W_skip ?_ | (refine W_region [] (by rfl) fun K hK => ?_; simp only [go_sem, Nat.reduceEqDiff, Nat.reduceLT, Nat.reduceAdd, Nat.reduceLeDiff, Nat.reduceMul, Nat.reduceSub, Int.reduceLE, Int.reduceLT, Int.reduceToNat, Int.reducePow, Int.reduceEq, h10i]; refine WRun.done _ _ (hK _ _ ?_); clear hK)))
      refine W_loop (α := Nat) (fun n F M' => n ≤ G.length ∧ look F 9 = .ptr c9 0 ∧ look F 10 = .ptr c10 0 ∧ look F 11 = .list tgb xb ∧ look F 12 = .list tgc xc ∧ look F 13 = .list tgd xd ∧ look F 81 = V.int G.length ∧ look F 82 = V.int n ∧
        M'[c9]? = some (.cells [V.int by_]) ∧ M'[c10]? = some (.cells [V.list tga xa])) (fun n => G.length - n) 0 ⟨Nat.zero_le _, ?_, ?_, ?_, ?_, ?_, ?_, ?_, h9i, h10i⟩ ?_
      · simp only [go_sem, Nat.reduceEqDiff, Nat.reduceLT, Nat.reduceAdd, Nat.reduceLeDiff, Nat.reduceMul, Nat.reduceSub, Int.reduceLE, Int.reduceLT, Int.reduceToNat, Int.reducePow, Int.reduceEq]
      · simp only [go_sem, Nat.reduceEqDiff, Nat.reduceLT, Nat.reduceAdd, Nat.reduceLeDiff, Nat.reduceMul, Nat.reduceSub, Int.reduceLE, Int.reduceLT, Int.reduceToNat, Int.reducePow, Int.reduceEq]
      · simp only [go_sem, Nat.reduceEqDiff, Nat.reduceLT, Nat.reduceAdd, Nat.reduceLeDiff, Nat.reduceMul, Nat.reduceSub, Int.reduceLE, Int.reduceLT, Int.reduceToNat, Int.reducePow, Int.reduceEq]
      · simp only [go_sem, Nat.reduceEqDiff, Nat.reduceLT, Nat.reduceAdd, Nat.reduceLeDiff, Nat.reduceMul, Nat.reduceSub, Int.reduceLE, Int.reduceLT, Int.reduceToNat, Int.reducePow, Int.reduceEq]
      · simp only [go_sem, Nat.reduceEqDiff, Nat.reduceLT, Nat.reduceAdd, Nat.reduceLeDiff, Nat.reduceMul, Nat.reduceSub, Int.reduceLE, Int.reduceLT, Int.reduceToNat, Int.reducePow, Int.reduceEq]
      · simp only [go_sem, Nat.reduceEqDiff, Nat.reduceLT, Nat.reduceAdd, Nat.reduceLeDiff, Nat.reduceMul, Nat.reduceSub, Int.reduceLE, Int.reduceLT, Int.reduceToNat, Int.reducePow, Int.reduceEq, hla]
      · simp only [go_sem, Nat.reduceEqDiff, Nat.reduceLT, Nat.reduceAdd, Nat.reduceLeDiff, Nat.reduceMul, Nat.reduceSub, Int.reduceLE, Int.reduceLT, Int.reduceToNat, Int.reducePow, Int.reduceEq]
      clear f1 f5 h9i h10i
      rintro n F M' ⟨hn, f9, f10, f11, f12, f13, f81, f82, h9, h10⟩
      by_cases hlt : n < G.length
      · have hlt' : (n : Int) < (G.length : Int) := by omega
        have hw : IntKind.i64.wrap ((n : Int) + 1) = ((n + 1 : Nat) : Int) := by rw [wrapI _ (by omega) (by omega)]; omega
        obtain ⟨f, hf⟩ : ∃ f, G.reverse[n]? = some f := ⟨G.reverse[n]'(by simpa using hlt), by simp [hlt]⟩
        have hfG : f ∈ G := by simpa using List.mem_of_getElem? hf
        obtain ⟨hfa, hfl⟩ := hGin f hfG
        have hf100 := hGl f hfG
        obtain ⟨tA, hA⟩ := hxa.at hf
        obtain ⟨tB, hB⟩ := hxb.at (f := f) (n := n) (by rw [← List.map_reverse, List.getElem?_map, hf]; exact congrArg some (mapF_id f))
        obtain ⟨tC, hC⟩ := hxc.at (f := mapF (fun p => IntKind.i64.wrap (p + by_)) f) (n := n) (by rw [← List.map_reverse, List.getElem?_map, ← List.map_reverse, List.getElem?_map, hf]; exact congrArg (fun g => some (mapF _ g)) (mapF_id f))
        obtain ⟨tD, hD⟩ := hxd.at (f := f) (n := n) (by
          rw [← List.map_reverse, List.getElem?_map, ← List.map_reverse, List.getElem?_map, ← List.map_reverse, List.getElem?_map, hf]
          refine (congrArg (fun g => some (mapF _ (mapF _ g))) (mapF_id f)).trans (congrArg some ?_)
          exact mapF_back by_ f hfa hfl)
        have hA0 := hA
        simp only [Frm.V, mapF] at hA hB hC hD
        have h9' : (M' ++ [AObj.cells [V.int n]])[c9]? = some (.cells [V.int by_]) := by rw [List.getElem?_append_left (List.getElem?_eq_some_iff.1 h9).1]; exact h9
        have h10' : (M' ++ [AObj.cells [V.int n]])[c10]? = some (.cells [V.list tga xa]) := by rw [List.getElem?_append_left (List.getElem?_eq_some_iff.1 h10).1]; exact h10
        have h14' : (M' ++ [AObj.cells [V.int n]])[M'.length]? = some (.cells [V.int n]) := by simp
        (repeat (first | refine W_seq ?_ | refine W_block ?_ | refine W_blk ?_ | refine W_skip ?_ | (refine W_region [] (by rfl) fun K hK => ?_; simp only [go_sem, Nat.reduceEqDiff, Nat.reduceLT, Nat.reduceAdd, Nat.reduceLeDiff, Nat.reduceMul, Nat.reduceSub, Int.reduceLE, Int.reduceLT, Int.reduceToNat, Int.reducePow, Int.reduceEq, f81, f82, hlt']; refine WRun.done _ _ (hK _ _ ?_); clear hK)))
        refine W_cond_true (by simp only [go_sem, Nat.reduceEqDiff, Nat.reduceLT, Nat.reduceAdd, Nat.reduceLeDiff, Nat.reduceMul, Nat.reduceSub, Int.reduceLE, Int.reduceLT, Int.reduceToNat, Int.reducePow, Int.reduceEq]) ?_
        (repeat (first | refine W_seq ?_ | refine W_block ?_ | refine W_blk ?_ | refine W_skip ?_ | (refine W_region [] (by rfl) fun K hK => ?_; simp only [go_sem, Nat.reduceEqDiff, Nat.reduceLT, Nat.reduceAdd, Nat.reduceLeDiff, Nat.reduceMul, Nat.reduceSub, Int.reduceLE, Int.reduceLT, Int.reduceToNat, Int.reducePow, Int.reduceEq, f82]; refine WRun.done _ _ (hK _ _ ?_); clear hK)))
        generalize M'.length = c14 at h14'
        generalize M' ++ [AObj.cells [V.int n]] = M2 at h9' h10' h14'
        have hlen6 : f.l.length ≤ 1000000 := by omega
        have fin : ∀ F' : Fr, look F' 9 = look F 9 → look F' 10 = look F 10 → look F' 11 = look F 11 → look F' 12 = look F 12 → look F' 13 = look F 13 → look F' 81 = look F 81 →
            ∃ x', (x' ≤ G.length ∧ look ((82, V.int ((n + 1 : Nat) : Int)) :: (184, V.int ((n + 1 : Nat) : Int)) :: F') 9 = .ptr c9 0 ∧ look ((82, V.int ((n + 1 : Nat) : Int)) :: (184, V.int ((n + 1 : Nat) : Int)) :: F') 10 = .ptr c10 0 ∧
              look ((82, V.int ((n + 1 : Nat) : Int)) :: (184, V.int ((n + 1 : Nat) : Int)) :: F') 11 = .list tgb xb ∧ look ((82, V.int ((n + 1 : Nat) : Int)) :: (184, V.int ((n + 1 : Nat) : Int)) :: F') 12 = .list tgc xc ∧
              look ((82, V.int ((n + 1 : Nat) : Int)) :: (184, V.int ((n + 1 : Nat) : Int)) :: F') 13 = .list tgd xd ∧ look ((82, V.int ((n + 1 : Nat) : Int)) :: (184, V.int ((n + 1 : Nat) : Int)) :: F') 81 = V.int G.length ∧
              look ((82, V.int ((n + 1 : Nat) : Int)) :: (184, V.int ((n + 1 : Nat) : Int)) :: F') 82 = V.int (x' : Nat) ∧ M2[c9]? = some (.cells [V.int by_]) ∧ M2[c10]? = some (.cells [V.list tga xa])) ∧ G.length - x' < G.length - n := by
          intro F' g9 g10 g11 g12 g13 g81
          refine ⟨n + 1, ⟨by omega, ?_, ?_, ?_, ?_, ?_, ?_, ?_, h9', h10'⟩, by omega⟩
          · simp only [go_sem, Nat.reduceEqDiff, Nat.reduceLT, Nat.reduceAdd, Nat.reduceLeDiff, Nat.reduceMul, Nat.reduceSub, Int.reduceLE, Int.reduceLT, Int.reduceToNat, Int.reducePow, Int.reduceEq, g9, f9]
          · simp only [go_sem, Nat.reduceEqDiff, Nat.reduceLT, Nat.reduceAdd, Nat.reduceLeDiff, Nat.reduceMul, Nat.reduceSub, Int.reduceLE, Int.reduceLT, Int.reduceToNat, Int.reducePow, Int.reduceEq, g10, f10]
          · simp only [go_sem, Nat.reduceEqDiff, Nat.reduceLT, Nat.reduceAdd, Nat.reduceLeDiff, Nat.reduceMul, Nat.reduceSub, Int.reduceLE, Int.reduceLT, Int.reduceToNat, Int.reducePow, Int.reduceEq, g11, f11]
          · simp only [go_sem, Nat.reduceEqDiff, Nat.reduceLT, Nat.reduceAdd, Nat.reduceLeDiff, Nat.reduceMul, Nat.reduceSub, Int.reduceLE, Int.reduceLT, Int.reduceToNat, Int.reducePow, Int.reduceEq, g12, f12]
          · simp only [go_sem, Nat.reduceEqDiff, Nat.reduceLT, Nat.reduceAdd, Nat.reduceLeDiff, Nat.reduceMul, Nat.reduceSub, Int.reduceLE, Int.reduceLT, Int.reduceToNat, Int.reducePow, Int.reduceEq, g13, f13]
          · simp only [go_sem, Nat.reduceEqDiff, Nat.reduceLT, Nat.reduceAdd, Nat.reduceLeDiff, Nat.reduceMul, Nat.reduceSub, Int.reduceLE, Int.reduceLT, Int.reduceToNat, Int.reducePow, Int.reduceEq, g81, f81]
          · simp only [go_sem, Nat.reduceEqDiff, Nat.reduceLT, Nat.reduceAdd, Nat.reduceLeDiff, Nat.reduceMul, Nat.reduceSub, Int.reduceLE, Int.reduceLT, Int.reduceToNat, Int.reducePow, Int.reduceEq]
        have hany : ((f.l.map fun p => IntKind.i64.wrap (p + by_)).any fun q => !decide (IntKind.i64.wrap (q - by_) ∈ f.l)) = false := by
          rw [List.any_eq_false]
          intro q hq
          obtain ⟨p, hp, rfl⟩ := List.mem_map.1 hq
          rw [back by_ p (hfl p hp)]
          simp [hp]
        have hb25 : bodyT Try.prog 25 = true := by kernel_rfl
        have hb26 : bodyT Try.prog 26 = true := by kernel_rfl
        by_cases hkd : f.kind = 2
        · simp only [hkd, if_true] at hA hB hC hD
          (repeat (first | refine W_seq ?_ | refine W_block ?_ | refine W_blk ?_ | refine W_skip ?_))
          (refine W_draw [] (fun X => X = M2) mixed_ (by rfl) ?_ fun K hK => ?_)
          · rfl
          (refine DR_quiet [0, 1, 2, 3, 4, 5, 6, 7] (by decide +kernel) (fun M_ hS_ => ?_) (fun K2 hK2 => ?_); (focus (simp only [go_sem, Nat.reduceEqDiff, Nat.reduceLT, Nat.reduceAdd, Nat.reduceLeDiff, Nat.reduceMul, Nat.reduceSub, Int.reduceLE, Int.reduceLT, Int.reduceToNat, Int.reducePow, Int.reduceEq, hS_, f10, f11, h10', h14', hA, hB, Int.natCast_nonneg, Int.toNat_natCast, List.append_eq])); simp only [go_sem, Nat.reduceEqDiff, Nat.reduceLT, Nat.reduceAdd, Nat.reduceLeDiff, Nat.reduceMul, Nat.reduceSub, Int.reduceLE, Int.reduceLT, Int.reduceToNat, Int.reducePow, Int.reduceEq, f10, f11, h10', h14', hA, hB, Int.natCast_nonneg, Int.toNat_natCast, List.append_eq]; refine hK2 _ ?_; clear hK2)
          (refine DR_sole' 8 (by decide +kernel) (by simp only [go_sem, Nat.reduceEqDiff, Nat.reduceLT, Nat.reduceAdd, Nat.reduceLeDiff, Nat.reduceMul, Nat.reduceSub, Int.reduceLE, Int.reduceLT, Int.reduceToNat, Int.reducePow, Int.reduceEq, List.append_eq]) ?_; simp only [go_sem, Nat.reduceEqDiff, Nat.reduceLT, Nat.reduceAdd, Nat.reduceLeDiff, Nat.reduceMul, Nat.reduceSub, Int.reduceLE, Int.reduceLT, Int.reduceToNat, Int.reducePow, Int.reduceEq, List.append_eq])
          refine ⟨_, same_eq _ _ _ _ _ _ _ (.inl ⟨_, rfl⟩) hlen6, ?_⟩
          rintro r X ⟨rfl, rfl⟩
          refine ⟨rfl, ?_⟩
          (refine DR_quiet [9, 10, 11, 12, 13, 14, 15, 16, 17, 18] (by decide +kernel) (fun M_ hS_ => ?_) (fun K2 hK2 => ?_); (focus (simp only [go_sem, Nat.reduceEqDiff, Nat.reduceLT, Nat.reduceAdd, Nat.reduceLeDiff, Nat.reduceMul, Nat.reduceSub, Int.reduceLE, Int.reduceLT, Int.reduceToNat, Int.reducePow, Int.reduceEq, hS_, f10, f13, h10', h14', hA, hD, Int.natCast_nonneg, Int.toNat_natCast, List.append_eq])); simp only [go_sem, Nat.reduceEqDiff, Nat.reduceLT, Nat.reduceAdd, Nat.reduceLeDiff, Nat.reduceMul, Nat.reduceSub, Int.reduceLE, Int.reduceLT, Int.reduceToNat, Int.reducePow, Int.reduceEq, f10, f13, h10', h14', hA, hD, Int.natCast_nonneg, Int.toNat_natCast, List.append_eq]; refine hK2 _ ?_; clear hK2)
          (refine DR_sole' 19 (by decide +kernel) (by simp only [go_sem, Nat.reduceEqDiff, Nat.reduceLT, Nat.reduceAdd, Nat.reduceLeDiff, Nat.reduceMul, Nat.reduceSub, Int.reduceLE, Int.reduceLT, Int.reduceToNat, Int.reducePow, Int.reduceEq, List.append_eq]) ?_; simp only [go_sem, Nat.reduceEqDiff, Nat.reduceLT, Nat.reduceAdd, Nat.reduceLeDiff, Nat.reduceMul, Nat.reduceSub, Int.reduceLE, Int.reduceLT, Int.reduceToNat, Int.reducePow, Int.reduceEq, List.append_eq])
          refine ⟨_, same_eq _ _ _ _ _ _ _ (.inl ⟨_, rfl⟩) hlen6, ?_⟩
          rintro r X ⟨rfl, rfl⟩
          refine ⟨rfl, ?_⟩
          (refine DR_quiet [20, 21, 22, 23, 24, 25, 26, 27, 28, 29, 30, 31, 32, 33, 34] (by decide +kernel) (fun M_ hS_ => ?_) (fun K2 hK2 => ?_); (focus (simp only [go_sem, Nat.reduceEqDiff, Nat.reduceLT, Nat.reduceAdd, Nat.reduceLeDiff, Nat.reduceMul, Nat.reduceSub, Int.reduceLE, Int.reduceLT, Int.reduceToNat, Int.reducePow, Int.reduceEq, hS_, f9, f10, f12, h9', h10', h14', hA, hC, Int.natCast_nonneg, Int.toNat_natCast, List.append_eq])); simp only [go_sem, Nat.reduceEqDiff, Nat.reduceLT, Nat.reduceAdd, Nat.reduceLeDiff, Nat.reduceMul, Nat.reduceSub, Int.reduceLE, Int.reduceLT, Int.reduceToNat, Int.reducePow, Int.reduceEq, f9, f10, f12, h9', h10', h14', hA, hC, Int.natCast_nonneg, Int.toNat_natCast, List.append_eq]; refine hK2 _ ?_; clear hK2)
          (refine DR_quiet [35, 36, 37, 38, 39, 40, 41, 42, 43, 44, 45, 46, 47] (by decide +kernel) (fun M_ hS_ => ?_) (fun K2 hK2 => ?_); (focus (simp only [go_sem, Nat.reduceEqDiff, Nat.reduceLT, Nat.reduceAdd, Nat.reduceLeDiff, Nat.reduceMul, Nat.reduceSub, Int.reduceLE, Int.reduceLT, Int.reduceToNat, Int.reducePow, Int.reduceEq, hS_, f9, f10, f12, h9', h10', h14', hA, hC, Int.natCast_nonneg, Int.toNat_natCast, List.append_eq])); simp only [go_sem, Nat.reduceEqDiff, Nat.reduceLT, Nat.reduceAdd, Nat.reduceLeDiff, Nat.reduceMul, Nat.reduceSub, Int.reduceLE, Int.reduceLT, Int.reduceToNat, Int.reducePow, Int.reduceEq, f9, f10, f12, h9', h10', h14', hA, hC, Int.natCast_nonneg, Int.toNat_natCast, List.append_eq]; refine hK2 _ ?_; clear hK2)
          (refine DR_quiet [48, 49, 50, 51, 52, 53, 54, 55, 56, 57, 58, 59, 60, 61, 62, 63, 64, 65, 66, 67, 68] (by decide +kernel) (fun M_ hS_ => ?_) (fun K2 hK2 => ?_); (focus (simp only [go_sem, Nat.reduceEqDiff, Nat.reduceLT, Nat.reduceAdd, Nat.reduceLeDiff, Nat.reduceMul, Nat.reduceSub, Int.reduceLE, Int.reduceLT, Int.reduceToNat, Int.reducePow, Int.reduceEq, hS_, f9, f10, f12, h9', h10', h14', hA, hC, Int.natCast_nonneg, Int.toNat_natCast, List.append_eq])); simp only [go_sem, Nat.reduceEqDiff, Nat.reduceLT, Nat.reduceAdd, Nat.reduceLeDiff, Nat.reduceMul, Nat.reduceSub, Int.reduceLE, Int.reduceLT, Int.reduceToNat, Int.reducePow, Int.reduceEq, f9, f10, f12, h9', h10', h14', hA, hC, Int.natCast_nonneg, Int.toNat_natCast, List.append_eq]; refine hK2 _ ?_; clear hK2)
          (refine DR_quiet [69, 70, 71, 72, 73, 74, 75, 76, 77, 78, 79, 80, 81, 82, 83, 84, 85, 86, 87, 88, 89, 90, 91] (by decide +kernel) (fun M_ hS_ => ?_) (fun K2 hK2 => ?_); (focus (simp only [go_sem, Nat.reduceEqDiff, Nat.reduceLT, Nat.reduceAdd, Nat.reduceLeDiff, Nat.reduceMul, Nat.reduceSub, Int.reduceLE, Int.reduceLT, Int.reduceToNat, Int.reducePow, Int.reduceEq, hS_, f9, f10, f12, h9', h10', h14', hA, hC, Int.natCast_nonneg, Int.toNat_natCast, List.append_eq])); simp only [go_sem, Nat.reduceEqDiff, Nat.reduceLT, Nat.reduceAdd, Nat.reduceLeDiff, Nat.reduceMul, Nat.reduceSub, Int.reduceLE, Int.reduceLT, Int.reduceToNat, Int.reducePow, Int.reduceEq, f9, f10, f12, h9', h10', h14', hA, hC, Int.natCast_nonneg, Int.toNat_natCast, List.append_eq]; refine hK2 _ ?_; clear hK2)
          (refine DR_end (by decide +kernel) (hK _ _ ?_); clear hK)
          refine W_cond_false (by simp only [go_sem, Nat.reduceEqDiff, Nat.reduceLT, Nat.reduceAdd, Nat.reduceLeDiff, Nat.reduceMul, Nat.reduceSub, Int.reduceLE, Int.reduceLT, Int.reduceToNat, Int.reducePow, Int.reduceEq]) ?_
          (repeat (first | refine W_seq ?_ | refine W_block ?_ | refine W_blk ?_ | refine W_skip ?_))
          (refine W_region [] (by rfl) fun K hK => ?_; simp only [go_sem, Nat.reduceEqDiff, Nat.reduceLT, Nat.reduceAdd, Nat.reduceLeDiff, Nat.reduceMul, Nat.reduceSub, Int.reduceLE, Int.reduceLT, Int.reduceToNat, Int.reducePow, Int.reduceEq, f9, f10, f12, h14', hC, Int.natCast_nonneg, Int.toNat_natCast, hb25])
          refine WRun.call _ _ _ _ _ _ _ (containsFunc_ok _ (f.l.map fun p => IntKind.i64.wrap (p + by_)) 26 _ (fun q => !decide (IntKind.i64.wrap (q - by_) ∈ f.l)) _ (by simp; omega) hb26 (fun x hx => pred_ok x c10 c14 c9 tga xa n by_ f tA _ h10' h14' h9' hA0 (by omega))) ?_
          rintro r X ⟨rfl, rfl⟩
          simp only [go_sem, Nat.reduceEqDiff, Nat.reduceLT, Nat.reduceAdd, Nat.reduceLeDiff, Nat.reduceMul, Nat.reduceSub, Int.reduceLE, Int.reduceLT, Int.reduceToNat, Int.reducePow, Int.reduceEq, hany]
          (refine WRun.done _ _ (hK _ _ ?_); clear hK)
          refine W_cond_false (by simp only [go_sem, Nat.reduceEqDiff, Nat.reduceLT, Nat.reduceAdd, Nat.reduceLeDiff, Nat.reduceMul, Nat.reduceSub, Int.reduceLE, Int.reduceLT, Int.reduceToNat, Int.reducePow, Int.reduceEq]) ?_
          (repeat (first | refine W_seq ?_ | refine W_block ?_ | refine W_blk ?_ | refine W_skip ?_ | (refine W_region [] (by rfl) fun K hK => ?_; simp only [go_sem, Nat.reduceEqDiff, Nat.reduceLT, Nat.reduceAdd, Nat.reduceLeDiff, Nat.reduceMul, Nat.reduceSub, Int.reduceLE, Int.reduceLT, Int.reduceToNat, Int.reducePow, Int.reduceEq, f82, hw]; refine WRun.done _ _ (hK _ _ ?_); clear hK)))
          refine W_stop (fin _ ?_ ?_ ?_ ?_ ?_ ?_)
          · simp only [go_sem, Nat.reduceEqDiff, Nat.reduceLT, Nat.reduceAdd, Nat.reduceLeDiff, Nat.reduceMul, Nat.reduceSub, Int.reduceLE, Int.reduceLT, Int.reduceToNat, Int.reducePow, Int.reduceEq]
          · simp only [go_sem, Nat.reduceEqDiff, Nat.reduceLT, Nat.reduceAdd, Nat.reduceLeDiff, Nat.reduceMul, Nat.reduceSub, Int.reduceLE, Int.reduceLT, Int.reduceToNat, Int.reducePow, Int.reduceEq]
          · simp only [go_sem, Nat.reduceEqDiff, Nat.reduceLT, Nat.reduceAdd, Nat.reduceLeDiff, Nat.reduceMul, Nat.reduceSub, Int.reduceLE, Int.reduceLT, Int.reduceToNat, Int.reducePow, Int.reduceEq]
          · simp only [go_sem, Nat.reduceEqDiff, Nat.reduceLT, Nat.reduceAdd, Nat.reduceLeDiff, Nat.reduceMul, Nat.reduceSub, Int.reduceLE, Int.reduceLT, Int.reduceToNat, Int.reducePow, Int.reduceEq]
          · simp only [go_sem, Nat.reduceEqDiff, Nat.reduceLT, Nat.reduceAdd, Nat.reduceLeDiff, Nat.reduceMul, Nat.reduceSub, Int.reduceLE, Int.reduceLT, Int.reduceToNat, Int.reducePow, Int.reduceEq]
          · simp only [go_sem, Nat.reduceEqDiff, Nat.reduceLT, Nat.reduceAdd, Nat.reduceLeDiff, Nat.reduceMul, Nat.reduceSub, Int.reduceLE, Int.reduceLT, Int.reduceToNat, Int.reducePow, Int.reduceEq]
        · simp only [hkd, if_false] at hA hB hC hD
          (repeat (first | refine W_seq ?_ | refine W_block ?_ | refine W_blk ?_ | refine W_skip ?_))
          (refine W_draw [] (fun X => X = M2) mixed_ (by rfl) ?_ fun K hK => ?_)
          · rfl
          (refine DR_quiet [0, 1, 2, 3, 4, 5, 6, 7] (by decide +kernel) (fun M_ hS_ => ?_) (fun K2 hK2 => ?_); (focus (simp only [go_sem, Nat.reduceEqDiff, Nat.reduceLT, Nat.reduceAdd, Nat.reduceLeDiff, Nat.reduceMul, Nat.reduceSub, Int.reduceLE, Int.reduceLT, Int.reduceToNat, Int.reducePow, Int.reduceEq, hS_, f10, f11, h10', h14', hA, hB, Int.natCast_nonneg, Int.toNat_natCast, List.append_eq])); simp only [go_sem, Nat.reduceEqDiff, Nat.reduceLT, Nat.reduceAdd, Nat.reduceLeDiff, Nat.reduceMul, Nat.reduceSub, Int.reduceLE, Int.reduceLT, Int.reduceToNat, Int.reducePow, Int.reduceEq, f10, f11, h10', h14', hA, hB, Int.natCast_nonneg, Int.toNat_natCast, List.append_eq]; refine hK2 _ ?_; clear hK2)
          (refine DR_sole' 8 (by decide +kernel) (by simp only [go_sem, Nat.reduceEqDiff, Nat.reduceLT, Nat.reduceAdd, Nat.reduceLeDiff, Nat.reduceMul, Nat.reduceSub, Int.reduceLE, Int.reduceLT, Int.reduceToNat, Int.reducePow, Int.reduceEq, List.append_eq]) ?_; simp only [go_sem, Nat.reduceEqDiff, Nat.reduceLT, Nat.reduceAdd, Nat.reduceLeDiff, Nat.reduceMul, Nat.reduceSub, Int.reduceLE, Int.reduceLT, Int.reduceToNat, Int.reducePow, Int.reduceEq, List.append_eq])
          refine ⟨_, same_eq _ _ _ _ _ _ _ (.inl ⟨_, rfl⟩) hlen6, ?_⟩
          rintro r X ⟨rfl, rfl⟩
          refine ⟨rfl, ?_⟩
          (refine DR_quiet [9, 10, 11, 12, 13, 14, 15, 16, 17, 18] (by decide +kernel) (fun M_ hS_ => ?_) (fun K2 hK2 => ?_); (focus (simp only [go_sem, Nat.reduceEqDiff, Nat.reduceLT, Nat.reduceAdd, Nat.reduceLeDiff, Nat.reduceMul, Nat.reduceSub, Int.reduceLE, Int.reduceLT, Int.reduceToNat, Int.reducePow, Int.reduceEq, hS_, f10, f13, h10', h14', hA, hD, Int.natCast_nonneg, Int.toNat_natCast, List.append_eq])); simp only [go_sem, Nat.reduceEqDiff, Nat.reduceLT, Nat.reduceAdd, Nat.reduceLeDiff, Nat.reduceMul, Nat.reduceSub, Int.reduceLE, Int.reduceLT, Int.reduceToNat, Int.reducePow, Int.reduceEq, f10, f13, h10', h14', hA, hD, Int.natCast_nonneg, Int.toNat_natCast, List.append_eq]; refine hK2 _ ?_; clear hK2)
          (refine DR_sole' 19 (by decide +kernel) (by simp only [go_sem, Nat.reduceEqDiff, Nat.reduceLT, Nat.reduceAdd, Nat.reduceLeDiff, Nat.reduceMul, Nat.reduceSub, Int.reduceLE, Int.reduceLT, Int.reduceToNat, Int.reducePow, Int.reduceEq, List.append_eq]) ?_; simp only [go_sem, Nat.reduceEqDiff, Nat.reduceLT, Nat.reduceAdd, Nat.reduceLeDiff, Nat.reduceMul, Nat.reduceSub, Int.reduceLE, Int.reduceLT, Int.reduceToNat, Int.reducePow, Int.reduceEq, List.append_eq])
          refine ⟨_, same_eq _ _ _ _ _ _ _ (.inl ⟨_, rfl⟩) hlen6, ?_⟩
          rintro r X ⟨rfl, rfl⟩
          refine ⟨rfl, ?_⟩
          (refine DR_quiet [20, 21, 22, 23, 24, 25, 26, 27, 28, 29, 30, 31, 32, 33, 34] (by decide +kernel) (fun M_ hS_ => ?_) (fun K2 hK2 => ?_); (focus (simp only [go_sem, Nat.reduceEqDiff, Nat.reduceLT, Nat.reduceAdd, Nat.reduceLeDiff, Nat.reduceMul, Nat.reduceSub, Int.reduceLE, Int.reduceLT, Int.reduceToNat, Int.reducePow, Int.reduceEq, hS_, f9, f10, f12, h9', h10', h14', hA, hC, hkd, Int.natCast_nonneg, Int.toNat_natCast, List.append_eq])); simp only [go_sem, Nat.reduceEqDiff, Nat.reduceLT, Nat.reduceAdd, Nat.reduceLeDiff, Nat.reduceMul, Nat.reduceSub, Int.reduceLE, Int.reduceLT, Int.reduceToNat, Int.reducePow, Int.reduceEq, f9, f10, f12, h9', h10', h14', hA, hC, hkd, Int.natCast_nonneg, Int.toNat_natCast, List.append_eq]; refine hK2 _ ?_; clear hK2)
          (refine DR_quiet [35, 36, 37, 38, 39, 40, 41, 42, 43, 44, 45, 46, 47] (by decide +kernel) (fun M_ hS_ => ?_) (fun K2 hK2 => ?_); (focus (simp only [go_sem, Nat.reduceEqDiff, Nat.reduceLT, Nat.reduceAdd, Nat.reduceLeDiff, Nat.reduceMul, Nat.reduceSub, Int.reduceLE, Int.reduceLT, Int.reduceToNat, Int.reducePow, Int.reduceEq, hS_, f9, f10, f12, h9', h10', h14', hA, hC, hkd, Int.natCast_nonneg, Int.toNat_natCast, List.append_eq])); simp only [go_sem, Nat.reduceEqDiff, Nat.reduceLT, Nat.reduceAdd, Nat.reduceLeDiff, Nat.reduceMul, Nat.reduceSub, Int.reduceLE, Int.reduceLT, Int.reduceToNat, Int.reducePow, Int.reduceEq, f9, f10, f12, h9', h10', h14', hA, hC, hkd, Int.natCast_nonneg, Int.toNat_natCast, List.append_eq]; refine hK2 _ ?_; clear hK2)
          (refine DR_quiet [48, 49, 50, 51, 52, 53, 54, 55, 56, 57, 58, 59, 60, 61, 62, 63, 64, 65, 66, 67, 68] (by decide +kernel) (fun M_ hS_ => ?_) (fun K2 hK2 => ?_); (focus (simp only [go_sem, Nat.reduceEqDiff, Nat.reduceLT, Nat.reduceAdd, Nat.reduceLeDiff, Nat.reduceMul, Nat.reduceSub, Int.reduceLE, Int.reduceLT, Int.reduceToNat, Int.reducePow, Int.reduceEq, hS_, f9, f10, f12, h9', h10', h14', hA, hC, hkd, Int.natCast_nonneg, Int.toNat_natCast, List.append_eq])); simp only [go_sem, Nat.reduceEqDiff, Nat.reduceLT, Nat.reduceAdd, Nat.reduceLeDiff, Nat.reduceMul, Nat.reduceSub, Int.reduceLE, Int.reduceLT, Int.reduceToNat, Int.reducePow, Int.reduceEq, f9, f10, f12, h9', h10', h14', hA, hC, hkd, Int.natCast_nonneg, Int.toNat_natCast, List.append_eq]; refine hK2 _ ?_; clear hK2)
          (refine DR_quiet [69, 70, 71, 72, 73, 74, 75, 76, 77, 78, 79, 80, 81, 82, 83, 84, 85, 86, 87, 88, 89, 90, 91] (by decide +kernel) (fun M_ hS_ => ?_) (fun K2 hK2 => ?_); (focus (simp only [go_sem, Nat.reduceEqDiff, Nat.reduceLT, Nat.reduceAdd, Nat.reduceLeDiff, Nat.reduceMul, Nat.reduceSub, Int.reduceLE, Int.reduceLT, Int.reduceToNat, Int.reducePow, Int.reduceEq, hS_, f9, f10, f12, h9', h10', h14', hA, hC, hkd, Int.natCast_nonneg, Int.toNat_natCast, List.append_eq])); simp only [go_sem, Nat.reduceEqDiff, Nat.reduceLT, Nat.reduceAdd, Nat.reduceLeDiff, Nat.reduceMul, Nat.reduceSub, Int.reduceLE, Int.reduceLT, Int.reduceToNat, Int.reducePow, Int.reduceEq, f9, f10, f12, h9', h10', h14', hA, hC, hkd, Int.natCast_nonneg, Int.toNat_natCast, List.append_eq]; refine hK2 _ ?_; clear hK2)
          (refine DR_end (by decide +kernel) (hK _ _ ?_); clear hK)
          refine W_cond_false (by simp only [go_sem, Nat.reduceEqDiff, Nat.reduceLT, Nat.reduceAdd, Nat.reduceLeDiff, Nat.reduceMul, Nat.reduceSub, Int.reduceLE, Int.reduceLT, Int.reduceToNat, Int.reducePow, Int.reduceEq]) ?_
          (repeat (first | refine W_seq ?_ | refine W_block ?_ | refine W_blk ?_ | refine W_skip ?_))
          (refine W_region [] (by rfl) fun K hK => ?_; simp only [go_sem, Nat.reduceEqDiff, Nat.reduceLT, Nat.reduceAdd, Nat.reduceLeDiff, Nat.reduceMul, Nat.reduceSub, Int.reduceLE, Int.reduceLT, Int.reduceToNat, Int.reducePow, Int.reduceEq, f9, f10, f12, h14', hC, Int.natCast_nonneg, Int.toNat_natCast, hb25])
          refine WRun.call _ _ _ _ _ _ _ (containsFunc_ok _ (f.l.map fun p => IntKind.i64.wrap (p + by_)) 26 _ (fun q => !decide (IntKind.i64.wrap (q - by_) ∈ f.l)) _ (by simp; omega) hb26 (fun x hx => pred_ok x c10 c14 c9 tga xa n by_ f tA _ h10' h14' h9' hA0 (by omega))) ?_
          rintro r X ⟨rfl, rfl⟩
          simp only [go_sem, Nat.reduceEqDiff, Nat.reduceLT, Nat.reduceAdd, Nat.reduceLeDiff, Nat.reduceMul, Nat.reduceSub, Int.reduceLE, Int.reduceLT, Int.reduceToNat, Int.reducePow, Int.reduceEq, hany]
          (refine WRun.done _ _ (hK _ _ ?_); clear hK)
          refine W_cond_false (by simp only [go_sem, Nat.reduceEqDiff, Nat.reduceLT, Nat.reduceAdd, Nat.reduceLeDiff, Nat.reduceMul, Nat.reduceSub, Int.reduceLE, Int.reduceLT, Int.reduceToNat, Int.reducePow, Int.reduceEq]) ?_
          (repeat (first | refine W_seq ?_ | refine W_block ?_ | refine W_blk ?_ | refine W_skip ?_ | (refine W_region [] (by rfl) fun K hK => ?_; simp only [go_sem, Nat.reduceEqDiff, Nat.reduceLT, Nat.reduceAdd, Nat.reduceLeDiff, Nat.reduceMul, Nat.reduceSub, Int.reduceLE, Int.reduceLT, Int.reduceToNat, Int.reducePow, Int.reduceEq, f82, hw]; refine WRun.done _ _ (hK _ _ ?_); clear hK)))
          refine W_stop (fin _ ?_ ?_ ?_ ?_ ?_ ?_)
          · simp only [go_sem, Nat.reduceEqDiff, Nat.reduceLT, Nat.reduceAdd, Nat.reduceLeDiff, Nat.reduceMul, Nat.reduceSub, Int.reduceLE, Int.reduceLT, Int.reduceToNat, Int.reducePow, Int.reduceEq]
          · simp only [go_sem, Nat.reduceEqDiff, Nat.reduceLT, Nat.reduceAdd, Nat.reduceLeDiff, Nat.reduceMul, Nat.reduceSub, Int.reduceLE, Int.reduceLT, Int.reduceToNat, Int.reducePow, Int.reduceEq]
          · simp only [go_sem, Nat.reduceEqDiff, Nat.reduceLT, Nat.reduceAdd, Nat.reduceLeDiff, Nat.reduceMul, Nat.reduceSub, Int.reduceLE, Int.reduceLT, Int.reduceToNat, Int.reducePow, Int.reduceEq]
          · simp only [go_sem, Nat.reduceEqDiff, Nat.reduceLT, Nat.reduceAdd, Nat.reduceLeDiff, Nat.reduceMul, Nat.reduceSub, Int.reduceLE, Int.reduceLT, Int.reduceToNat, Int.reducePow, Int.reduceEq]
          · simp only [go_sem, Nat.reduceEqDiff, Nat.reduceLT, Nat.reduceAdd, Nat.reduceLeDiff, Nat.reduceMul, Nat.reduceSub, Int.reduceLE, Int.reduceLT, Int.reduceToNat, Int.reducePow, Int.reduceEq]
          · simp only [go_sem, Nat.reduceEqDiff, Nat.reduceLT, Nat.reduceAdd, Nat.reduceLeDiff, Nat.reduceMul, Nat.reduceSub, Int.reduceLE, Int.reduceLT, Int.reduceToNat, Int.reducePow, Int.reduceEq]
      · have hlt' : ¬ (n : Int) < (G.length : Int) := by omega
        (repeat (first | refine W_seq ?_ | refine W_block ?_ | refine W_blk ?_ | refine W_skip ?_ | (refine W_region [] (by rfl) fun K hK => ?_; simp only [go_sem, Nat.reduceEqDiff, Nat.reduceLT, Nat.reduceAdd, Nat.reduceLeDiff, Nat.reduceMul, Nat.reduceSub, Int.reduceLE, Int.reduceLT, Int.reduceToNat, Int.reducePow, Int.reduceEq, f81, f82, hlt']; refine WRun.done _ _ (hK _ _ ?_); clear hK)))
        refine W_cond_false (by simp only [go_sem, Nat.reduceEqDiff, Nat.reduceLT, Nat.reduceAdd, Nat.reduceLeDiff, Nat.reduceMul, Nat.reduceSub, Int.reduceLE, Int.reduceLT, Int.reduceToNat, Int.reducePow, Int.reduceEq]) ?_
        refine W_exit (Qof_code (Qof_stop (Qof_blk_same ?_)))
        (repeat (first | refine W_seq ?_ | refine W_block ?_ | refine W_blk ?_ | refine W_skip ?_))
        (refine W_region [] (by rfl) fun K hK => ?_; simp only [go_sem, Nat.reduceEqDiff, Nat.reduceLT, Nat.reduceAdd, Nat.reduceLeDiff, Nat.reduceMul, Nat.reduceSub, Int.reduceLE, Int.reduceLT, Int.reduceToNat, Int.reducePow, Int.reduceEq])
        refine WRun.call _ _ _ _ _ _ _ (new_ok (-1) _) ?_
        intro r M2 h2
        rw [if_pos (by omega)] at h2
        obtain ⟨rfl, rfl⟩ := h2
        simp only [go_sem, Nat.reduceEqDiff, Nat.reduceLT, Nat.reduceAdd, Nat.reduceLeDiff, Nat.reduceMul, Nat.reduceSub, Int.reduceLE, Int.reduceLT, Int.reduceToNat, Int.reducePow, Int.reduceEq]
        (refine WRun.done _ _ (hK _ _ ?_); clear hK)
        (repeat (first | refine W_seq ?_ | refine W_block ?_ | refine W_blk ?_ | refine W_skip ?_ | (refine W_region [] (by rfl) fun K hK => ?_; simp only [go_sem, Nat.reduceEqDiff, Nat.reduceLT, Nat.reduceAdd, Nat.reduceLeDiff, Nat.reduceMul, Nat.reduceSub, Int.reduceLE, Int.reduceLT, Int.reduceToNat, Int.reducePow, Int.reduceEq]; refine WRun.done _ _ (hK _ _ ?_); clear hK)))
        refine W_ret ?_
        simp only [go_sem, Nat.reduceEqDiff, Nat.reduceLT, Nat.reduceAdd, Nat.reduceLeDiff, Nat.reduceMul, Nat.reduceSub, Int.reduceLE, Int.reduceLT, Int.reduceToNat, Int.reducePow, Int.reduceEq]
end Go.Ax

import Derived.Test.YthbojmoiimknhaaStA
set_option linter.unusedSimpArgs false
set_option linter.unusedVariables false
namespace Go.Ax
open Go.Proofs

theorem IsFrs.at : ∀ {xs : List V} {fs : List Frm} {n : Nat} {f : Frm}, IsFrs xs fs → fs[n]? = some f → ∃ tg, xs[n]? = some (f.V tg)
  | x :: xs, g :: fs, 0, f, h, hf => by
    obtain ⟨tg, rfl⟩ := h.1
    simp at hf
    exact ⟨tg, by rw [hf]; rfl⟩
  | x :: xs, g :: fs, n + 1, f, h, hf => by
    obtain ⟨tg, h⟩ := h.2.at (n := n) (by simpa using hf)
    exact ⟨tg, by simpa using h⟩
  | [], [], n, f, _, hf => by simp at hf
  | [], _ :: _, _, _, h, _ => h.elim
  | _ :: _, [], _, _, h, _ => h.elim

theorem id_ok (p : Int) (M : AMem) : ACalls Try.prog 22 [V.int p] M (fun r M' => r = V.int p ∧ M' = M) := by
  refine acalls_enter [.tmp 2] 4 Try.func22 rfl rfl rfl (by simp) ?_
  (repeat (first | refine W_seq ?_ | refine W_block ?_ | refine W_blk ?_ | refine W_skip ?_ | (refine W_region [] (by rfl) fun K hK => ?_; simp only [go_sem, Nat.reduceEqDiff, Nat.reduceLT, Nat.reduceAdd, Nat.reduceLeDiff, Nat.reduceMul, Nat.reduceSub, Int.reduceLE, Int.reduceLT, Int.reduceToNat, Int.reducePow, Int.reduceEq]; refine WRun.done _ _ (hK _ _ ?_); clear hK)))
  refine W_ret ?_
  simp only [go_sem, Nat.reduceEqDiff, Nat.reduceLT, Nat.reduceAdd, Nat.reduceLeDiff, Nat.reduceMul, Nat.reduceSub, Int.reduceLE, Int.reduceLT, Int.reduceToNat, Int.reducePow, Int.reduceEq]

theorem add_ok (p : Int) (c : Nat) (n : Int) (M : AMem) (hc : M[c]? = some (.cells [V.int n])) : ACalls Try.prog 23 [V.int p, .ptr c 0] M (fun r M' => r = V.int (IntKind.i64.wrap (p + n)) ∧ M' = M) := by
  refine acalls_enter [.tmp 3] 7 Try.func23 rfl rfl rfl (by simp) ?_
  (repeat (first | refine W_seq ?_ | refine W_block ?_ | refine W_blk ?_ | refine W_skip ?_ | (refine W_region [] (by rfl) fun K hK => ?_; simp only [go_sem, Nat.reduceEqDiff, Nat.reduceLT, Nat.reduceAdd, Nat.reduceLeDiff, Nat.reduceMul, Nat.reduceSub, Int.reduceLE, Int.reduceLT, Int.reduceToNat, Int.reducePow, Int.reduceEq, hc]; refine WRun.done _ _ (hK _ _ ?_); clear hK)))
  refine W_ret ?_
  simp only [go_sem, Nat.reduceEqDiff, Nat.reduceLT, Nat.reduceAdd, Nat.reduceLeDiff, Nat.reduceMul, Nat.reduceSub, Int.reduceLE, Int.reduceLT, Int.reduceToNat, Int.reducePow, Int.reduceEq]

theorem sub_ok (p : Int) (c : Nat) (n : Int) (M : AMem) (hc : M[c]? = some (.cells [V.int n])) : ACalls Try.prog 24 [V.int p, .ptr c 0] M (fun r M' => r = V.int (IntKind.i64.wrap (p - n)) ∧ M' = M) := by
  refine acalls_enter [.tmp 3] 7 Try.func24 rfl rfl rfl (by simp) ?_
  (repeat (first | refine W_seq ?_ | refine W_block ?_ | refine W_blk ?_ | refine W_skip ?_ | (refine W_region [] (by rfl) fun K hK => ?_; simp only [go_sem, Nat.reduceEqDiff, Nat.reduceLT, Nat.reduceAdd, Nat.reduceLeDiff, Nat.reduceMul, Nat.reduceSub, Int.reduceLE, Int.reduceLT, Int.reduceToNat, Int.reducePow, Int.reduceEq, hc]; refine WRun.done _ _ (hK _ _ ?_); clear hK)))
  refine W_ret ?_
  simp only [go_sem, Nat.reduceEqDiff, Nat.reduceLT, Nat.reduceAdd, Nat.reduceLeDiff, Nat.reduceMul, Nat.reduceSub, Int.reduceLE, Int.reduceLT, Int.reduceToNat, Int.reducePow, Int.reduceEq]

def idC : Clo Unit 22 [] where
  Own := fun _ _ => False
  Inv := fun _ _ => True
  stp := fun _ p => (p, ())
  cost := fun _ => 0
  body := by kernel_rfl
  lt := fun _ _ _ _ h => h.elim
  stable := fun _ _ _ _ _ _ => trivial
  pay := fun _ _ => by omega
  call := fun s M p _ _ => (id_ok p M).mono fun v M' h => by
    obtain ⟨rfl, rfl⟩ := h
    exact ⟨rfl, trivial, Nat.le_refl _, fun _ _ _ => rfl, fun _ h => h.elim⟩

def addC (c : Nat) (n : Int) : Clo Unit 23 [.ptr c 0] where
  Own := fun _ j => j = c
  Inv := fun _ M => M[c]? = some (.cells [V.int n])
  stp := fun _ p => (IntKind.i64.wrap (p + n), ())
  cost := fun _ => 0
  body := by kernel_rfl
  lt := fun _ _ _ h e => by rw [e]; exact (List.getElem?_eq_some_iff.1 h).1
  stable := fun _ _ _ h _ hk => by rw [hk c rfl]; exact h
  pay := fun _ _ => by omega
  call := fun s M p h _ => (add_ok p c n M h).mono fun v M' h' => by
    obtain ⟨rfl, rfl⟩ := h'
    exact ⟨rfl, h, Nat.le_refl _, fun _ _ _ => rfl, fun _ h => .inl h⟩

def subC (c : Nat) (n : Int) : Clo Unit 24 [.ptr c 0] where
  Own := fun _ j => j = c
  Inv := fun _ M => M[c]? = some (.cells [V.int n])
  stp := fun _ p => (IntKind.i64.wrap (p - n), ())
  cost := fun _ => 0
  body := by kernel_rfl
  lt := fun _ _ _ h e => by rw [e]; exact (List.getElem?_eq_some_iff.1 h).1
  stable := fun _ _ _ h _ hk => by rw [hk c rfl]; exact h
  pay := fun _ _ => by omega
  call := fun s M p h _ => (sub_ok p c n M h).mono fun v M' h' => by
    obtain ⟨rfl, rfl⟩ := h'
    exact ⟨rfl, h, Nat.le_refl _, fun _ _ _ => rfl, fun _ h => .inl h⟩

/-- A frame with its pointers changed. -/
def mapF (g : Int → Int) (f : Frm) : Frm := { f with l := f.l.map g, a := if f.kind = 2 then g f.a else f.a }

theorem runL_unit (stp : Unit → Int → Int × Unit) : ∀ l, runL stp () l = (l.map (fun p => (stp () p).1), ())
  | [] => rfl
  | p :: l => by simp [runL, runL_unit stp l]
theorem runF_unit (stp : Unit → Int → Int × Unit) (f : Frm) : runF stp () f = (mapF (fun p => (stp () p).1) f, ()) := by
  unfold runF mapF
  rw [runL_unit]
  split <;> simp_all
theorem runFs_unit (stp : Unit → Int → Int × Unit) : ∀ fs, (runFs stp () fs).1 = fs.map (mapF fun p => (stp () p).1)
  | [] => rfl
  | f :: fs => by simp [runFs, runF_unit, runFs_unit stp fs]

theorem mapF_ok {g : Int → Int} {f : Frm} (h : f.ok) : (mapF g f).ok := by simpa [Frm.ok, mapF] using h
theorem mapF_enc (g : Int → Int) : ∀ fs : List Frm, (encL (fs.map (mapF g))).length = (encL fs).length
  | [] => rfl
  | f :: fs => by
    have := mapF_enc g fs
    simp only [encL, List.map_cons, List.flatMap_cons, List.length_append, enc_length] at *
    rw [this]; simp [mapF]

/-- The function that asks whether a number, less n, is in the frame's list. -/
theorem pred_ok (p : Int) (c10 c14 c9 : Nat) (tg : Tag) (xs : List V) (i : Nat) (n : Int) (f : Frm) (tg2 : Tag) (M : AMem) (h10 : M[c10]? = some (.cells [.list tg xs])) (h14 : M[c14]? = some (.cells [V.int i])) (h9 : M[c9]? = some (.cells [V.int n]))
    (hx : xs[i]? = some (f.V tg2)) (hl : f.l.length ≤ 1073741824) : ACalls Try.prog 26 [V.int p, .ptr c10 0, .ptr c14 0, .ptr c9 0] M (fun r M' => r = V.bool (!decide (IntKind.i64.wrap (p - n) ∈ f.l)) ∧ M' = M) := by
  refine acalls_enter [.tmp 5] 16 Try.func26 rfl rfl rfl (by simp) ?_
  (repeat (first | refine W_seq ?_ | refine W_block ?_ | refine W_blk ?_ | refine W_skip ?_ | (refine W_region [] (by rfl) fun K hK => ?_; simp only [go_sem, Nat.reduceEqDiff, Nat.reduceLT, Nat.reduceAdd, Nat.reduceLeDiff, Nat.reduceMul, Nat.reduceSub, Int.reduceLE, Int.reduceLT, Int.reduceToNat, Int.reducePow, Int.reduceEq]; refine WRun.done _ _ (hK _ _ ?_); clear hK)))
  simp only [Frm.V] at hx
  (refine W_draw [] (fun M' => M' = M) mixed_ (by rfl) ?_ fun K hK => ?_)
  · rfl
  (refine DR_quiet [0, 1, 2, 3, 4, 5, 6, 7] (by decide +kernel) (fun M_ hS_ => ?_) (fun K2 hK2 => ?_); (focus (simp only [go_sem, Nat.reduceEqDiff, Nat.reduceLT, Nat.reduceAdd, Nat.reduceLeDiff, Nat.reduceMul, Nat.reduceSub, Int.reduceLE, Int.reduceLT, Int.reduceToNat, Int.reducePow, Int.reduceEq, hS_, h10, h14, h9, hx, Int.natCast_nonneg, Int.toNat_natCast])); simp only [go_sem, Nat.reduceEqDiff, Nat.reduceLT, Nat.reduceAdd, Nat.reduceLeDiff, Nat.reduceMul, Nat.reduceSub, Int.reduceLE, Int.reduceLT, Int.reduceToNat, Int.reducePow, Int.reduceEq, h10, h14, h9, hx, Int.natCast_nonneg, Int.toNat_natCast]; refine hK2 _ ?_; clear hK2)
  (refine DR_sole' 8 (by decide +kernel) (by simp only [go_sem, Nat.reduceEqDiff, Nat.reduceLT, Nat.reduceAdd, Nat.reduceLeDiff, Nat.reduceMul, Nat.reduceSub, Int.reduceLE, Int.reduceLT, Int.reduceToNat, Int.reducePow, Int.reduceEq]) ?_; simp only [go_sem, Nat.reduceEqDiff, Nat.reduceLT, Nat.reduceAdd, Nat.reduceLeDiff, Nat.reduceMul, Nat.reduceSub, Int.reduceLE, Int.reduceLT, Int.reduceToNat, Int.reducePow, Int.reduceEq])
  refine ⟨_, contains_ok _ _ _ _ hl, ?_⟩
  rintro r M1 ⟨rfl, rfl⟩
  refine ⟨rfl, ?_⟩
  (refine DR_quiet [9, 10] (by decide +kernel) (fun M_ hS_ => ?_) (fun K2 hK2 => ?_); (focus (simp only [go_sem, Nat.reduceEqDiff, Nat.reduceLT, Nat.reduceAdd, Nat.reduceLeDiff, Nat.reduceMul, Nat.reduceSub, Int.reduceLE, Int.reduceLT, Int.reduceToNat, Int.reducePow, Int.reduceEq, hS_])); simp only [go_sem, Nat.reduceEqDiff, Nat.reduceLT, Nat.reduceAdd, Nat.reduceLeDiff, Nat.reduceMul, Nat.reduceSub, Int.reduceLE, Int.reduceLT, Int.reduceToNat, Int.reducePow, Int.reduceEq]; refine hK2 _ ?_; clear hK2)
  (refine DR_end (by decide +kernel) (hK _ _ ?_); clear hK)
  refine W_ret ?_
  simp only [go_sem, Nat.reduceEqDiff, Nat.reduceLT, Nat.reduceAdd, Nat.reduceLeDiff, Nat.reduceMul, Nat.reduceSub, Int.reduceLE, Int.reduceLT, Int.reduceToNat, Int.reducePow, Int.reduceEq]
end Go.Ax

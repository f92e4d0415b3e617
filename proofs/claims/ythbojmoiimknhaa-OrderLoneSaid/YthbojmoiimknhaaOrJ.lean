import Derived.Test.YthbojmoiimknhaaOrI
set_option linter.unusedSimpArgs false
set_option linter.unusedVariables false
namespace Go.Ax
open Go.Proofs Go.Ord

/-- The visit is made. -/
theorem groups_make {Ret : Fr → AMem → Prop} {k0 : List It} {M : AMem} {n c : Nat} {x : V} (hx : x.one = true ∧ x.cells = [x] ∧ x.okv = true) (hc : M[c]? = some (.cells [V.int n])) (hn1 : n ≤ 1000000) (F : Fr) (f0 : look F 0 = x) (f4 : look F 4 = .ptr c 0)
    (hk : ∀ F' M' d, look F' 7 = .ptr d.v 0 → look F' 4 = .ptr c 0 → VisAt M M.length n x d Ord.start none M' → M.length ≤ M'.length → W Try.prog 50 Ret k0 F' M') :
    W Try.prog 50 Ret (.code (part [1,1,1,0] body30) :: k0) F M := by
  obtain ⟨hx1, hx2, hx3⟩ := hx
  have hn30 : (n : Int) ≤ 1073741824 := by omega
  have fin : ∀ (F' : Fr) (M' : AMem) (v lo nu on gr : Nat), look F' 7 = .ptr v 0 → look F' 4 = .ptr c 0 → M'[v]? = some (.cells [x, .arr lo 0 n 1, .arr nu 0 n 1, .arr on 0 n 1, .list .full [], V.int 0, .arr gr 0 n 1, V.int 0]) →
      M'[lo]? = some (.cells (List.replicate n (V.int 0))) → M'[nu]? = some (.cells (List.replicate n (V.int 0))) → M'[on]? = some (.cells (List.replicate n (V.bool false))) → M'[gr]? = some (.cells (List.replicate n (V.int 0))) →
      (v ≠ lo ∧ v ≠ nu ∧ v ≠ on ∧ v ≠ gr ∧ lo ≠ nu ∧ lo ≠ on ∧ lo ≠ gr ∧ nu ≠ on ∧ nu ≠ gr ∧ on ≠ gr ∧ M.length ≤ v ∧ M.length ≤ lo ∧ M.length ≤ nu ∧ M.length ≤ on ∧ M.length ≤ gr) → (∃ Y, M' = M ++ Y) → W Try.prog 50 Ret k0 F' M' := by
    rintro F' M' v lo nu on gr g7 g4 h1 h2 h3 h4 h5 ⟨a1, a2, a3, a4, b1, b2, b3, c1, c2, d1, l1, l2, l3, l4, l5⟩ ⟨Y, rfl⟩
    refine hk F' _ ⟨v, lo, nu, on, gr⟩ g7 g4 ⟨h1, ?_, ?_, ?_, ?_, fun _ => rfl, fun k e => (by cases e), ⟨a1, a2, a3, a4, b1, b2, b3, c1, c2, d1, l1, l2, l3, l4, l5⟩, fun j hj => List.getElem?_append_left hj⟩ (by simp)
    · rw [h2, replicate_map]; rfl
    · rw [h3, replicate_map]; rfl
    · rw [h4, replicate_map]; rfl
    · rw [h5, replicate_map]; rfl
  (refine W_draw [] (fun X => X[c]? = some (.cells [V.int n])) mixed_ (by rfl) ?_ fun K hK => ?_)
  · exact hc
  (refine DR_quiet [0, 1, 3, 5, 7] (by decide +kernel) (fun M_ hS_ => ?_) (fun K2 hK2 => ?_); (focus (simp only [go_sem, Nat.reduceEqDiff, Nat.reduceLT, Nat.reduceAdd, Nat.reduceLeDiff, Nat.reduceMul, Nat.reduceSub, Int.reduceLE, Int.reduceLT, Int.reduceToNat, Int.reducePow, Int.reduceEq, hS_, f0, f4, hc])); simp only [go_sem, Nat.reduceEqDiff, Nat.reduceLT, Nat.reduceAdd, Nat.reduceLeDiff, Nat.reduceMul, Nat.reduceSub, Int.reduceLE, Int.reduceLT, Int.reduceToNat, Int.reducePow, Int.reduceEq, f0, f4, hc]; refine hK2 _ ?_; clear hK2)
  refine DR_fork [2, 4, 6, 8] (by decide +kernel) (fun hS => ?_)
  simp only [List.forall_mem_cons, List.not_mem_nil, false_imp_iff, implies_true, and_true]
  refine ⟨fun _ => ?_, fun _ => ?_, fun _ => ?_, fun _ => ?_⟩
  · simp only [go_sem, Nat.reduceEqDiff, Nat.reduceLT, Nat.reduceAdd, Nat.reduceLeDiff, Nat.reduceMul, Nat.reduceSub, Int.reduceLE, Int.reduceLT, Int.reduceToNat, Int.reducePow, Int.reduceEq, hn30, Int.natCast_nonneg, Int.toNat_natCast]
    refine ⟨at_app hS, ?_⟩
    refine DR_fork [4, 6, 8] (by decide +kernel) (fun hS => ?_)
    simp only [List.forall_mem_cons, List.not_mem_nil, false_imp_iff, implies_true, and_true]
    refine ⟨fun _ => ?_, fun _ => ?_, fun _ => ?_⟩
    · simp only [go_sem, Nat.reduceEqDiff, Nat.reduceLT, Nat.reduceAdd, Nat.reduceLeDiff, Nat.reduceMul, Nat.reduceSub, Int.reduceLE, Int.reduceLT, Int.reduceToNat, Int.reducePow, Int.reduceEq, hn30, Int.natCast_nonneg, Int.toNat_natCast]
      refine ⟨at_app hS, ?_⟩
      refine DR_fork [6, 8] (by decide +kernel) (fun hS => ?_)
      simp only [List.forall_mem_cons, List.not_mem_nil, false_imp_iff, implies_true, and_true]
      refine ⟨fun _ => ?_, fun _ => ?_⟩
      · simp only [go_sem, Nat.reduceEqDiff, Nat.reduceLT, Nat.reduceAdd, Nat.reduceLeDiff, Nat.reduceMul, Nat.reduceSub, Int.reduceLE, Int.reduceLT, Int.reduceToNat, Int.reducePow, Int.reduceEq, hn30, Int.natCast_nonneg, Int.toNat_natCast]
        refine ⟨at_app hS, ?_⟩
        refine DR_fork [8] (by decide +kernel) (fun hS => ?_)
        simp only [List.forall_mem_cons, List.not_mem_nil, false_imp_iff, implies_true, and_true]
        refine fun _ => ?_
        · simp only [go_sem, Nat.reduceEqDiff, Nat.reduceLT, Nat.reduceAdd, Nat.reduceLeDiff, Nat.reduceMul, Nat.reduceSub, Int.reduceLE, Int.reduceLT, Int.reduceToNat, Int.reducePow, Int.reduceEq, hn30, Int.natCast_nonneg, Int.toNat_natCast]
          refine ⟨at_app hS, ?_⟩
          (refine DR_quiet [9] (by decide +kernel) (fun M_ hS_ => ?_) (fun K2 hK2 => ?_); (focus (simp only [go_sem, Nat.reduceEqDiff, Nat.reduceLT, Nat.reduceAdd, Nat.reduceLeDiff, Nat.reduceMul, Nat.reduceSub, Int.reduceLE, Int.reduceLT, Int.reduceToNat, Int.reducePow, Int.reduceEq, hS_, hx1, hx2, hx3])); simp only [go_sem, Nat.reduceEqDiff, Nat.reduceLT, Nat.reduceAdd, Nat.reduceLeDiff, Nat.reduceMul, Nat.reduceSub, Int.reduceLE, Int.reduceLT, Int.reduceToNat, Int.reducePow, Int.reduceEq, hx1, hx2, hx3]; refine hK2 _ ?_; clear hK2)
          (refine DR_sole' 10 (by decide +kernel) (by simp only [go_sem, Nat.reduceEqDiff, Nat.reduceLT, Nat.reduceAdd, Nat.reduceLeDiff, Nat.reduceMul, Nat.reduceSub, Int.reduceLE, Int.reduceLT, Int.reduceToNat, Int.reducePow, Int.reduceEq, hx1]) ?_; simp only [go_sem, Nat.reduceEqDiff, Nat.reduceLT, Nat.reduceAdd, Nat.reduceLeDiff, Nat.reduceMul, Nat.reduceSub, Int.reduceLE, Int.reduceLT, Int.reduceToNat, Int.reducePow, Int.reduceEq, hx1])
          refine ⟨at_app (at_app hS), ?_⟩
          (refine DR_quiet [11] (by decide +kernel) (fun M_ hS_ => ?_) (fun K2 hK2 => ?_); (focus (simp only [go_sem, Nat.reduceEqDiff, Nat.reduceLT, Nat.reduceAdd, Nat.reduceLeDiff, Nat.reduceMul, Nat.reduceSub, Int.reduceLE, Int.reduceLT, Int.reduceToNat, Int.reducePow, Int.reduceEq, hS_])); simp only [go_sem, Nat.reduceEqDiff, Nat.reduceLT, Nat.reduceAdd, Nat.reduceLeDiff, Nat.reduceMul, Nat.reduceSub, Int.reduceLE, Int.reduceLT, Int.reduceToNat, Int.reducePow, Int.reduceEq]; refine hK2 _ ?_; clear hK2)
          (refine DR_end (by decide +kernel) (hK _ _ ?_); clear hK)
          refine fin _ _ (M.length + 4) M.length (M.length + 1) (M.length + 2) (M.length + 3) ?_ ?_ ?_ ?_ ?_ ?_ ?_ (by omega) ⟨_, by simp only [List.append_assoc]; rfl⟩
          · simp only [go_sem, Nat.reduceEqDiff, Nat.reduceLT, Nat.reduceAdd, Nat.reduceLeDiff, Nat.reduceMul, Nat.reduceSub, Int.reduceLE, Int.reduceLT, Int.reduceToNat, Int.reducePow, Int.reduceEq, List.length_append, List.length_cons, List.length_nil]
          · simp only [go_sem, Nat.reduceEqDiff, Nat.reduceLT, Nat.reduceAdd, Nat.reduceLeDiff, Nat.reduceMul, Nat.reduceSub, Int.reduceLE, Int.reduceLT, Int.reduceToNat, Int.reducePow, Int.reduceEq, f4]
          · simp
          · simp
          · simp
          · simp
          · simp
      · simp only [go_sem, Nat.reduceEqDiff, Nat.reduceLT, Nat.reduceAdd, Nat.reduceLeDiff, Nat.reduceMul, Nat.reduceSub, Int.reduceLE, Int.reduceLT, Int.reduceToNat, Int.reducePow, Int.reduceEq, hn30, Int.natCast_nonneg, Int.toNat_natCast]
        refine ⟨at_app hS, ?_⟩
        refine DR_fork [6] (by decide +kernel) (fun hS => ?_)
        simp only [List.forall_mem_cons, List.not_mem_nil, false_imp_iff, implies_true, and_true]
        refine fun _ => ?_
        · simp only [go_sem, Nat.reduceEqDiff, Nat.reduceLT, Nat.reduceAdd, Nat.reduceLeDiff, Nat.reduceMul, Nat.reduceSub, Int.reduceLE, Int.reduceLT, Int.reduceToNat, Int.reducePow, Int.reduceEq, hn30, Int.natCast_nonneg, Int.toNat_natCast]
          refine ⟨at_app hS, ?_⟩
          (refine DR_quiet [9] (by decide +kernel) (fun M_ hS_ => ?_) (fun K2 hK2 => ?_); (focus (simp only [go_sem, Nat.reduceEqDiff, Nat.reduceLT, Nat.reduceAdd, Nat.reduceLeDiff, Nat.reduceMul, Nat.reduceSub, Int.reduceLE, Int.reduceLT, Int.reduceToNat, Int.reducePow, Int.reduceEq, hS_, hx1, hx2, hx3])); simp only [go_sem, Nat.reduceEqDiff, Nat.reduceLT, Nat.reduceAdd, Nat.reduceLeDiff, Nat.reduceMul, Nat.reduceSub, Int.reduceLE, Int.reduceLT, Int.reduceToNat, Int.reducePow, Int.reduceEq, hx1, hx2, hx3]; refine hK2 _ ?_; clear hK2)
          (refine DR_sole' 10 (by decide +kernel) (by simp only [go_sem, Nat.reduceEqDiff, Nat.reduceLT, Nat.reduceAdd, Nat.reduceLeDiff, Nat.reduceMul, Nat.reduceSub, Int.reduceLE, Int.reduceLT, Int.reduceToNat, Int.reducePow, Int.reduceEq, hx1]) ?_; simp only [go_sem, Nat.reduceEqDiff, Nat.reduceLT, Nat.reduceAdd, Nat.reduceLeDiff, Nat.reduceMul, Nat.reduceSub, Int.reduceLE, Int.reduceLT, Int.reduceToNat, Int.reducePow, Int.reduceEq, hx1])
          refine ⟨at_app (at_app hS), ?_⟩
          (refine DR_quiet [11] (by decide +kernel) (fun M_ hS_ => ?_) (fun K2 hK2 => ?_); (focus (simp only [go_sem, Nat.reduceEqDiff, Nat.reduceLT, Nat.reduceAdd, Nat.reduceLeDiff, Nat.reduceMul, Nat.reduceSub, Int.reduceLE, Int.reduceLT, Int.reduceToNat, Int.reducePow, Int.reduceEq, hS_])); simp only [go_sem, Nat.reduceEqDiff, Nat.reduceLT, Nat.reduceAdd, Nat.reduceLeDiff, Nat.reduceMul, Nat.reduceSub, Int.reduceLE, Int.reduceLT, Int.reduceToNat, Int.reducePow, Int.reduceEq]; refine hK2 _ ?_; clear hK2)
          (refine DR_end (by decide +kernel) (hK _ _ ?_); clear hK)
          refine fin _ _ (M.length + 4) M.length (M.length + 1) (M.length + 3) (M.length + 2) ?_ ?_ ?_ ?_ ?_ ?_ ?_ (by omega) ⟨_, by simp only [List.append_assoc]; rfl⟩
          · simp only [go_sem, Nat.reduceEqDiff, Nat.reduceLT, Nat.reduceAdd, Nat.reduceLeDiff, Nat.reduceMul, Nat.reduceSub, Int.reduceLE, Int.reduceLT, Int.reduceToNat, Int.reducePow, Int.reduceEq, List.length_append, List.length_cons, List.length_nil]
          · simp only [go_sem, Nat.reduceEqDiff, Nat.reduceLT, Nat.reduceAdd, Nat.reduceLeDiff, Nat.reduceMul, Nat.reduceSub, Int.reduceLE, Int.reduceLT, Int.reduceToNat, Int.reducePow, Int.reduceEq, f4]
          · simp
          · simp
          · simp
          · simp
          · simp
    · simp only [go_sem, Nat.reduceEqDiff, Nat.reduceLT, Nat.reduceAdd, Nat.reduceLeDiff, Nat.reduceMul, Nat.reduceSub, Int.reduceLE, Int.reduceLT, Int.reduceToNat, Int.reducePow, Int.reduceEq, hn30, Int.natCast_nonneg, Int.toNat_natCast]
      refine ⟨at_app hS, ?_⟩
      refine DR_fork [4, 8] (by decide +kernel) (fun hS => ?_)
      simp only [List.forall_mem_cons, List.not_mem_nil, false_imp_iff, implies_true, and_true]
      refine ⟨fun _ => ?_, fun _ => ?_⟩
      · simp only [go_sem, Nat.reduceEqDiff, Nat.reduceLT, Nat.reduceAdd, Nat.reduceLeDiff, Nat.reduceMul, Nat.reduceSub, Int.reduceLE, Int.reduceLT, Int.reduceToNat, Int.reducePow, Int.reduceEq, hn30, Int.natCast_nonneg, Int.toNat_natCast]
        refine ⟨at_app hS, ?_⟩
        refine DR_fork [8] (by decide +kernel) (fun hS => ?_)
        simp only [List.forall_mem_cons, List.not_mem_nil, false_imp_iff, implies_true, and_true]
        refine fun _ => ?_
        · simp only [go_sem, Nat.reduceEqDiff, Nat.reduceLT, Nat.reduceAdd, Nat.reduceLeDiff, Nat.reduceMul, Nat.reduceSub, Int.reduceLE, Int.reduceLT, Int.reduceToNat, Int.reducePow, Int.reduceEq, hn30, Int.natCast_nonneg, Int.toNat_natCast]
          refine ⟨at_app hS, ?_⟩
          (refine DR_quiet [9] (by decide +kernel) (fun M_ hS_ => ?_) (fun K2 hK2 => ?_); (focus (simp only [go_sem, Nat.reduceEqDiff, Nat.reduceLT, Nat.reduceAdd, Nat.reduceLeDiff, Nat.reduceMul, Nat.reduceSub, Int.reduceLE, Int.reduceLT, Int.reduceToNat, Int.reducePow, Int.reduceEq, hS_, hx1, hx2, hx3])); simp only [go_sem, Nat.reduceEqDiff, Nat.reduceLT, Nat.reduceAdd, Nat.reduceLeDiff, Nat.reduceMul, Nat.reduceSub, Int.reduceLE, Int.reduceLT, Int.reduceToNat, Int.reducePow, Int.reduceEq, hx1, hx2, hx3]; refine hK2 _ ?_; clear hK2)
          (refine DR_sole' 10 (by decide +kernel) (by simp only [go_sem, Nat.reduceEqDiff, Nat.reduceLT, Nat.reduceAdd, Nat.reduceLeDiff, Nat.reduceMul, Nat.reduceSub, Int.reduceLE, Int.reduceLT, Int.reduceToNat, Int.reducePow, Int.reduceEq, hx1]) ?_; simp only [go_sem, Nat.reduceEqDiff, Nat.reduceLT, Nat.reduceAdd, Nat.reduceLeDiff, Nat.reduceMul, Nat.reduceSub, Int.reduceLE, Int.reduceLT, Int.reduceToNat, Int.reducePow, Int.reduceEq, hx1])
          refine ⟨at_app (at_app hS), ?_⟩
          (refine DR_quiet [11] (by decide +kernel) (fun M_ hS_ => ?_) (fun K2 hK2 => ?_); (focus (simp only [go_sem, Nat.reduceEqDiff, Nat.reduceLT, Nat.reduceAdd, Nat.reduceLeDiff, Nat.reduceMul, Nat.reduceSub, Int.reduceLE, Int.reduceLT, Int.reduceToNat, Int.reducePow, Int.reduceEq, hS_])); simp only [go_sem, Nat.reduceEqDiff, Nat.reduceLT, Nat.reduceAdd, Nat.reduceLeDiff, Nat.reduceMul, Nat.reduceSub, Int.reduceLE, Int.reduceLT, Int.reduceToNat, Int.reducePow, Int.reduceEq]; refine hK2 _ ?_; clear hK2)
          (refine DR_end (by decide +kernel) (hK _ _ ?_); clear hK)
          refine fin _ _ (M.length + 4) M.length (M.length + 2) (M.length + 1) (M.length + 3) ?_ ?_ ?_ ?_ ?_ ?_ ?_ (by omega) ⟨_, by simp only [List.append_assoc]; rfl⟩
          · simp only [go_sem, Nat.reduceEqDiff, Nat.reduceLT, Nat.reduceAdd, Nat.reduceLeDiff, Nat.reduceMul, Nat.reduceSub, Int.reduceLE, Int.reduceLT, Int.reduceToNat, Int.reducePow, Int.reduceEq, List.length_append, List.length_cons, List.length_nil]
          · simp only [go_sem, Nat.reduceEqDiff, Nat.reduceLT, Nat.reduceAdd, Nat.reduceLeDiff, Nat.reduceMul, Nat.reduceSub, Int.reduceLE, Int.reduceLT, Int.reduceToNat, Int.reducePow, Int.reduceEq, f4]
          · simp
          · simp
          · simp
          · simp
          · simp
      · simp only [go_sem, Nat.reduceEqDiff, Nat.reduceLT, Nat.reduceAdd, Nat.reduceLeDiff, Nat.reduceMul, Nat.reduceSub, Int.reduceLE, Int.reduceLT, Int.reduceToNat, Int.reducePow, Int.reduceEq, hn30, Int.natCast_nonneg, Int.toNat_natCast]
        refine ⟨at_app hS, ?_⟩
        refine DR_fork [4] (by decide +kernel) (fun hS => ?_)
        simp only [List.forall_mem_cons, List.not_mem_nil, false_imp_iff, implies_true, and_true]
        refine fun _ => ?_
        · simp only [go_sem, Nat.reduceEqDiff, Nat.reduceLT, Nat.reduceAdd, Nat.reduceLeDiff, Nat.reduceMul, Nat.reduceSub, Int.reduceLE, Int.reduceLT, Int.reduceToNat, Int.reducePow, Int.reduceEq, hn30, Int.natCast_nonneg, Int.toNat_natCast]
          refine ⟨at_app hS, ?_⟩
          (refine DR_quiet [9] (by decide +kernel) (fun M_ hS_ => ?_) (fun K2 hK2 => ?_); (focus (simp only [go_sem, Nat.reduceEqDiff, Nat.reduceLT, Nat.reduceAdd, Nat.reduceLeDiff, Nat.reduceMul, Nat.reduceSub, Int.reduceLE, Int.reduceLT, Int.reduceToNat, Int.reducePow, Int.reduceEq, hS_, hx1, hx2, hx3])); simp only [go_sem, Nat.reduceEqDiff, Nat.reduceLT, Nat.reduceAdd, Nat.reduceLeDiff, Nat.reduceMul, Nat.reduceSub, Int.reduceLE, Int.reduceLT, Int.reduceToNat, Int.reducePow, Int.reduceEq, hx1, hx2, hx3]; refine hK2 _ ?_; clear hK2)
          (refine DR_sole' 10 (by decide +kernel) (by simp only [go_sem, Nat.reduceEqDiff, Nat.reduceLT, Nat.reduceAdd, Nat.reduceLeDiff, Nat.reduceMul, Nat.reduceSub, Int.reduceLE, Int.reduceLT, Int.reduceToNat, Int.reducePow, Int.reduceEq, hx1]) ?_; simp only [go_sem, Nat.reduceEqDiff, Nat.reduceLT, Nat.reduceAdd, Nat.reduceLeDiff, Nat.reduceMul, Nat.reduceSub, Int.reduceLE, Int.reduceLT, Int.reduceToNat, Int.reducePow, Int.reduceEq, hx1])
          refine ⟨at_app (at_app hS), ?_⟩
          (refine DR_quiet [11] (by decide +kernel) (fun M_ hS_ => ?_) (fun K2 hK2 => ?_); (focus (simp only [go_sem, Nat.reduceEqDiff, Nat.reduceLT, Nat.reduceAdd, Nat.reduceLeDiff, Nat.reduceMul, Nat.reduceSub, Int.reduceLE, Int.reduceLT, Int.reduceToNat, Int.reducePow, Int.reduceEq, hS_])); simp only [go_sem, Nat.reduceEqDiff, Nat.reduceLT, Nat.reduceAdd, Nat.reduceLeDiff, Nat.reduceMul, Nat.reduceSub, Int.reduceLE, Int.reduceLT, Int.reduceToNat, Int.reducePow, Int.reduceEq]; refine hK2 _ ?_; clear hK2)
          (refine DR_end (by decide +kernel) (hK _ _ ?_); clear hK)
          refine fin _ _ (M.length + 4) M.length (M.length + 3) (M.length + 1) (M.length + 2) ?_ ?_ ?_ ?_ ?_ ?_ ?_ (by omega) ⟨_, by simp only [List.append_assoc]; rfl⟩
          · simp only [go_sem, Nat.reduceEqDiff, Nat.reduceLT, Nat.reduceAdd, Nat.reduceLeDiff, Nat.reduceMul, Nat.reduceSub, Int.reduceLE, Int.reduceLT, Int.reduceToNat, Int.reducePow, Int.reduceEq, List.length_append, List.length_cons, List.length_nil]
          · simp only [go_sem, Nat.reduceEqDiff, Nat.reduceLT, Nat.reduceAdd, Nat.reduceLeDiff, Nat.reduceMul, Nat.reduceSub, Int.reduceLE, Int.reduceLT, Int.reduceToNat, Int.reducePow, Int.reduceEq, f4]
          · simp
          · simp
          · simp
          · simp
          · simp
    · simp only [go_sem, Nat.reduceEqDiff, Nat.reduceLT, Nat.reduceAdd, Nat.reduceLeDiff, Nat.reduceMul, Nat.reduceSub, Int.reduceLE, Int.reduceLT, Int.reduceToNat, Int.reducePow, Int.reduceEq, hn30, Int.natCast_nonneg, Int.toNat_natCast]
      refine ⟨at_app hS, ?_⟩
      refine DR_fork [4, 6] (by decide +kernel) (fun hS => ?_)
      simp only [List.forall_mem_cons, List.not_mem_nil, false_imp_iff, implies_true, and_true]
      refine ⟨fun _ => ?_, fun _ => ?_⟩
      · simp only [go_sem, Nat.reduceEqDiff, Nat.reduceLT, Nat.reduceAdd, Nat.reduceLeDiff, Nat.reduceMul, Nat.reduceSub, Int.reduceLE, Int.reduceLT, Int.reduceToNat, Int.reducePow, Int.reduceEq, hn30, Int.natCast_nonneg, Int.toNat_natCast]
        refine ⟨at_app hS, ?_⟩
        refine DR_fork [6] (by decide +kernel) (fun hS => ?_)
        simp only [List.forall_mem_cons, List.not_mem_nil, false_imp_iff, implies_true, and_true]
        refine fun _ => ?_
        · simp only [go_sem, Nat.reduceEqDiff, Nat.reduceLT, Nat.reduceAdd, Nat.reduceLeDiff, Nat.reduceMul, Nat.reduceSub, Int.reduceLE, Int.reduceLT, Int.reduceToNat, Int.reducePow, Int.reduceEq, hn30, Int.natCast_nonneg, Int.toNat_natCast]
          refine ⟨at_app hS, ?_⟩
          (refine DR_quiet [9] (by decide +kernel) (fun M_ hS_ => ?_) (fun K2 hK2 => ?_); (focus (simp only [go_sem, Nat.reduceEqDiff, Nat.reduceLT, Nat.reduceAdd, Nat.reduceLeDiff, Nat.reduceMul, Nat.reduceSub, Int.reduceLE, Int.reduceLT, Int.reduceToNat, Int.reducePow, Int.reduceEq, hS_, hx1, hx2, hx3])); simp only [go_sem, Nat.reduceEqDiff, Nat.reduceLT, Nat.reduceAdd, Nat.reduceLeDiff, Nat.reduceMul, Nat.reduceSub, Int.reduceLE, Int.reduceLT, Int.reduceToNat, Int.reducePow, Int.reduceEq, hx1, hx2, hx3]; refine hK2 _ ?_; clear hK2)
          (refine DR_sole' 10 (by decide +kernel) (by simp only [go_sem, Nat.reduceEqDiff, Nat.reduceLT, Nat.reduceAdd, Nat.reduceLeDiff, Nat.reduceMul, Nat.reduceSub, Int.reduceLE, Int.reduceLT, Int.reduceToNat, Int.reducePow, Int.reduceEq, hx1]) ?_; simp only [go_sem, Nat.reduceEqDiff, Nat.reduceLT, Nat.reduceAdd, Nat.reduceLeDiff, Nat.reduceMul, Nat.reduceSub, Int.reduceLE, Int.reduceLT, Int.reduceToNat, Int.reducePow, Int.reduceEq, hx1])
          refine ⟨at_app (at_app hS), ?_⟩
          (refine DR_quiet [11] (by decide +kernel) (fun M_ hS_ => ?_) (fun K2 hK2 => ?_); (focus (simp only [go_sem, Nat.reduceEqDiff, Nat.reduceLT, Nat.reduceAdd, Nat.reduceLeDiff, Nat.reduceMul, Nat.reduceSub, Int.reduceLE, Int.reduceLT, Int.reduceToNat, Int.reducePow, Int.reduceEq, hS_])); simp only [go_sem, Nat.reduceEqDiff, Nat.reduceLT, Nat.reduceAdd, Nat.reduceLeDiff, Nat.reduceMul, Nat.reduceSub, Int.reduceLE, Int.reduceLT, Int.reduceToNat, Int.reducePow, Int.reduceEq]; refine hK2 _ ?_; clear hK2)
          (refine DR_end (by decide +kernel) (hK _ _ ?_); clear hK)
          refine fin _ _ (M.length + 4) M.length (M.length + 2) (M.length + 3) (M.length + 1) ?_ ?_ ?_ ?_ ?_ ?_ ?_ (by omega) ⟨_, by simp only [List.append_assoc]; rfl⟩
          · simp only [go_sem, Nat.reduceEqDiff, Nat.reduceLT, Nat.reduceAdd, Nat.reduceLeDiff, Nat.reduceMul, Nat.reduceSub, Int.reduceLE, Int.reduceLT, Int.reduceToNat, Int.reducePow, Int.reduceEq, List.length_append, List.length_cons, List.length_nil]
          · simp only [go_sem, Nat.reduceEqDiff, Nat.reduceLT, Nat.reduceAdd, Nat.reduceLeDiff, Nat.reduceMul, Nat.reduceSub, Int.reduceLE, Int.reduceLT, Int.reduceToNat, Int.reducePow, Int.reduceEq, f4]
          · simp
          · simp
          · simp
          · simp
          · simp
      · simp only [go_sem, Nat.reduceEqDiff, Nat.reduceLT, Nat.reduceAdd, Nat.reduceLeDiff, Nat.reduceMul, Nat.reduceSub, Int.reduceLE, Int.reduceLT, Int.reduceToNat, Int.reducePow, Int.reduceEq, hn30, Int.natCast_nonneg, Int.toNat_natCast]
        refine ⟨at_app hS, ?_⟩
        refine DR_fork [4] (by decide +kernel) (fun hS => ?_)
        simp only [List.forall_mem_cons, List.not_mem_nil, false_imp_iff, implies_true, and_true]
        refine fun _ => ?_
        · simp only [go_sem, Nat.reduceEqDiff, Nat.reduceLT, Nat.reduceAdd, Nat.reduceLeDiff, Nat.reduceMul, Nat.reduceSub, Int.reduceLE, Int.reduceLT, Int.reduceToNat, Int.reducePow, Int.reduceEq, hn30, Int.natCast_nonneg, Int.toNat_natCast]
          refine ⟨at_app hS, ?_⟩
          (refine DR_quiet [9] (by decide +kernel) (fun M_ hS_ => ?_) (fun K2 hK2 => ?_); (focus (simp only [go_sem, Nat.reduceEqDiff, Nat.reduceLT, Nat.reduceAdd, Nat.reduceLeDiff, Nat.reduceMul, Nat.reduceSub, Int.reduceLE, Int.reduceLT, Int.reduceToNat, Int.reducePow, Int.reduceEq, hS_, hx1, hx2, hx3])); simp only [go_sem, Nat.reduceEqDiff, Nat.reduceLT, Nat.reduceAdd, Nat.reduceLeDiff, Nat.reduceMul, Nat.reduceSub, Int.reduceLE, Int.reduceLT, Int.reduceToNat, Int.reducePow, Int.reduceEq, hx1, hx2, hx3]; refine hK2 _ ?_; clear hK2)
          (refine DR_sole' 10 (by decide +kernel) (by simp only [go_sem, Nat.reduceEqDiff, Nat.reduceLT, Nat.reduceAdd, Nat.reduceLeDiff, Nat.reduceMul, Nat.reduceSub, Int.reduceLE, Int.reduceLT, Int.reduceToNat, Int.reducePow, Int.reduceEq, hx1]) ?_; simp only [go_sem, Nat.reduceEqDiff, Nat.reduceLT, Nat.reduceAdd, Nat.reduceLeDiff, Nat.reduceMul, Nat.reduceSub, Int.reduceLE, Int.reduceLT, Int.reduceToNat, Int.reducePow, Int.reduceEq, hx1])
          refine ⟨at_app (at_app hS), ?_⟩
          (refine DR_quiet [11] (by decide +kernel) (fun M_ hS_ => ?_) (fun K2 hK2 => ?_); (focus (simp only [go_sem, Nat.reduceEqDiff, Nat.reduceLT, Nat.reduceAdd, Nat.reduceLeDiff, Nat.reduceMul, Nat.reduceSub, Int.reduceLE, Int.reduceLT, Int.reduceToNat, Int.reducePow, Int.reduceEq, hS_])); simp only [go_sem, Nat.reduceEqDiff, Nat.reduceLT, Nat.reduceAdd, Nat.reduceLeDiff, Nat.reduceMul, Nat.reduceSub, Int.reduceLE, Int.reduceLT, Int.reduceToNat, Int.reducePow, Int.reduceEq]; refine hK2 _ ?_; clear hK2)
          (refine DR_end (by decide +kernel) (hK _ _ ?_); clear hK)
          refine fin _ _ (M.length + 4) M.length (M.length + 3) (M.length + 2) (M.length + 1) ?_ ?_ ?_ ?_ ?_ ?_ ?_ (by omega) ⟨_, by simp only [List.append_assoc]; rfl⟩
          · simp only [go_sem, Nat.reduceEqDiff, Nat.reduceLT, Nat.reduceAdd, Nat.reduceLeDiff, Nat.reduceMul, Nat.reduceSub, Int.reduceLE, Int.reduceLT, Int.reduceToNat, Int.reducePow, Int.reduceEq, List.length_append, List.length_cons, List.length_nil]
          · simp only [go_sem, Nat.reduceEqDiff, Nat.reduceLT, Nat.reduceAdd, Nat.reduceLeDiff, Nat.reduceMul, Nat.reduceSub, Int.reduceLE, Int.reduceLT, Int.reduceToNat, Int.reducePow, Int.reduceEq, f4]
          · simp
          · simp
          · simp
          · simp
          · simp
  · simp only [go_sem, Nat.reduceEqDiff, Nat.reduceLT, Nat.reduceAdd, Nat.reduceLeDiff, Nat.reduceMul, Nat.reduceSub, Int.reduceLE, Int.reduceLT, Int.reduceToNat, Int.reducePow, Int.reduceEq, hn30, Int.natCast_nonneg, Int.toNat_natCast]
    refine ⟨at_app hS, ?_⟩
    refine DR_fork [2, 6, 8] (by decide +kernel) (fun hS => ?_)
    simp only [List.forall_mem_cons, List.not_mem_nil, false_imp_iff, implies_true, and_true]
    refine ⟨fun _ => ?_, fun _ => ?_, fun _ => ?_⟩
    · simp only [go_sem, Nat.reduceEqDiff, Nat.reduceLT, Nat.reduceAdd, Nat.reduceLeDiff, Nat.reduceMul, Nat.reduceSub, Int.reduceLE, Int.reduceLT, Int.reduceToNat, Int.reducePow, Int.reduceEq, hn30, Int.natCast_nonneg, Int.toNat_natCast]
      refine ⟨at_app hS, ?_⟩
      refine DR_fork [6, 8] (by decide +kernel) (fun hS => ?_)
      simp only [List.forall_mem_cons, List.not_mem_nil, false_imp_iff, implies_true, and_true]
      refine ⟨fun _ => ?_, fun _ => ?_⟩
      · simp only [go_sem, Nat.reduceEqDiff, Nat.reduceLT, Nat.reduceAdd, Nat.reduceLeDiff, Nat.reduceMul, Nat.reduceSub, Int.reduceLE, Int.reduceLT, Int.reduceToNat, Int.reducePow, Int.reduceEq, hn30, Int.natCast_nonneg, Int.toNat_natCast]
        refine ⟨at_app hS, ?_⟩
        refine DR_fork [8] (by decide +kernel) (fun hS => ?_)
        simp only [List.forall_mem_cons, List.not_mem_nil, false_imp_iff, implies_true, and_true]
        refine fun _ => ?_
        · simp only [go_sem, Nat.reduceEqDiff, Nat.reduceLT, Nat.reduceAdd, Nat.reduceLeDiff, Nat.reduceMul, Nat.reduceSub, Int.reduceLE, Int.reduceLT, Int.reduceToNat, Int.reducePow, Int.reduceEq, hn30, Int.natCast_nonneg, Int.toNat_natCast]
          refine ⟨at_app hS, ?_⟩
          (refine DR_quiet [9] (by decide +kernel) (fun M_ hS_ => ?_) (fun K2 hK2 => ?_); (focus (simp only [go_sem, Nat.reduceEqDiff, Nat.reduceLT, Nat.reduceAdd, Nat.reduceLeDiff, Nat.reduceMul, Nat.reduceSub, Int.reduceLE, Int.reduceLT, Int.reduceToNat, Int.reducePow, Int.reduceEq, hS_, hx1, hx2, hx3])); simp only [go_sem, Nat.reduceEqDiff, Nat.reduceLT, Nat.reduceAdd, Nat.reduceLeDiff, Nat.reduceMul, Nat.reduceSub, Int.reduceLE, Int.reduceLT, Int.reduceToNat, Int.reducePow, Int.reduceEq, hx1, hx2, hx3]; refine hK2 _ ?_; clear hK2)
          (refine DR_sole' 10 (by decide +kernel) (by simp only [go_sem, Nat.reduceEqDiff, Nat.reduceLT, Nat.reduceAdd, Nat.reduceLeDiff, Nat.reduceMul, Nat.reduceSub, Int.reduceLE, Int.reduceLT, Int.reduceToNat, Int.reducePow, Int.reduceEq, hx1]) ?_; simp only [go_sem, Nat.reduceEqDiff, Nat.reduceLT, Nat.reduceAdd, Nat.reduceLeDiff, Nat.reduceMul, Nat.reduceSub, Int.reduceLE, Int.reduceLT, Int.reduceToNat, Int.reducePow, Int.reduceEq, hx1])
          refine ⟨at_app (at_app hS), ?_⟩
          (refine DR_quiet [11] (by decide +kernel) (fun M_ hS_ => ?_) (fun K2 hK2 => ?_); (focus (simp only [go_sem, Nat.reduceEqDiff, Nat.reduceLT, Nat.reduceAdd, Nat.reduceLeDiff, Nat.reduceMul, Nat.reduceSub, Int.reduceLE, Int.reduceLT, Int.reduceToNat, Int.reducePow, Int.reduceEq, hS_])); simp only [go_sem, Nat.reduceEqDiff, Nat.reduceLT, Nat.reduceAdd, Nat.reduceLeDiff, Nat.reduceMul, Nat.reduceSub, Int.reduceLE, Int.reduceLT, Int.reduceToNat, Int.reducePow, Int.reduceEq]; refine hK2 _ ?_; clear hK2)
          (refine DR_end (by decide +kernel) (hK _ _ ?_); clear hK)
          refine fin _ _ (M.length + 4) (M.length + 1) M.length (M.length + 2) (M.length + 3) ?_ ?_ ?_ ?_ ?_ ?_ ?_ (by omega) ⟨_, by simp only [List.append_assoc]; rfl⟩
          · simp only [go_sem, Nat.reduceEqDiff, Nat.reduceLT, Nat.reduceAdd, Nat.reduceLeDiff, Nat.reduceMul, Nat.reduceSub, Int.reduceLE, Int.reduceLT, Int.reduceToNat, Int.reducePow, Int.reduceEq, List.length_append, List.length_cons, List.length_nil]
          · simp only [go_sem, Nat.reduceEqDiff, Nat.reduceLT, Nat.reduceAdd, Nat.reduceLeDiff, Nat.reduceMul, Nat.reduceSub, Int.reduceLE, Int.reduceLT, Int.reduceToNat, Int.reducePow, Int.reduceEq, f4]
          · simp
          · simp
          · simp
          · simp
          · simp
      · simp only [go_sem, Nat.reduceEqDiff, Nat.reduceLT, Nat.reduceAdd, Nat.reduceLeDiff, Nat.reduceMul, Nat.reduceSub, Int.reduceLE, Int.reduceLT, Int.reduceToNat, Int.reducePow, Int.reduceEq, hn30, Int.natCast_nonneg, Int.toNat_natCast]
        refine ⟨at_app hS, ?_⟩
        refine DR_fork [6] (by decide +kernel) (fun hS => ?_)
        simp only [List.forall_mem_cons, List.not_mem_nil, false_imp_iff, implies_true, and_true]
        refine fun _ => ?_
        · simp only [go_sem, Nat.reduceEqDiff, Nat.reduceLT, Nat.reduceAdd, Nat.reduceLeDiff, Nat.reduceMul, Nat.reduceSub, Int.reduceLE, Int.reduceLT, Int.reduceToNat, Int.reducePow, Int.reduceEq, hn30, Int.natCast_nonneg, Int.toNat_natCast]
          refine ⟨at_app hS, ?_⟩
          (refine DR_quiet [9] (by decide +kernel) (fun M_ hS_ => ?_) (fun K2 hK2 => ?_); (focus (simp only [go_sem, Nat.reduceEqDiff, Nat.reduceLT, Nat.reduceAdd, Nat.reduceLeDiff, Nat.reduceMul, Nat.reduceSub, Int.reduceLE, Int.reduceLT, Int.reduceToNat, Int.reducePow, Int.reduceEq, hS_, hx1, hx2, hx3])); simp only [go_sem, Nat.reduceEqDiff, Nat.reduceLT, Nat.reduceAdd, Nat.reduceLeDiff, Nat.reduceMul, Nat.reduceSub, Int.reduceLE, Int.reduceLT, Int.reduceToNat, Int.reducePow, Int.reduceEq, hx1, hx2, hx3]; refine hK2 _ ?_; clear hK2)
          (refine DR_sole' 10 (by decide +kernel) (by simp only [go_sem, Nat.reduceEqDiff, Nat.reduceLT, Nat.reduceAdd, Nat.reduceLeDiff, Nat.reduceMul, Nat.reduceSub, Int.reduceLE, Int.reduceLT, Int.reduceToNat, Int.reducePow, Int.reduceEq, hx1]) ?_; simp only [go_sem, Nat.reduceEqDiff, Nat.reduceLT, Nat.reduceAdd, Nat.reduceLeDiff, Nat.reduceMul, Nat.reduceSub, Int.reduceLE, Int.reduceLT, Int.reduceToNat, Int.reducePow, Int.reduceEq, hx1])
          refine ⟨at_app (at_app hS), ?_⟩
          (refine DR_quiet [11] (by decide +kernel) (fun M_ hS_ => ?_) (fun K2 hK2 => ?_); (focus (simp only [go_sem, Nat.reduceEqDiff, Nat.reduceLT, Nat.reduceAdd, Nat.reduceLeDiff, Nat.reduceMul, Nat.reduceSub, Int.reduceLE, Int.reduceLT, Int.reduceToNat, Int.reducePow, Int.reduceEq, hS_])); simp only [go_sem, Nat.reduceEqDiff, Nat.reduceLT, Nat.reduceAdd, Nat.reduceLeDiff, Nat.reduceMul, Nat.reduceSub, Int.reduceLE, Int.reduceLT, Int.reduceToNat, Int.reducePow, Int.reduceEq]; refine hK2 _ ?_; clear hK2)
          (refine DR_end (by decide +kernel) (hK _ _ ?_); clear hK)
          refine fin _ _ (M.length + 4) (M.length + 1) M.length (M.length + 3) (M.length + 2) ?_ ?_ ?_ ?_ ?_ ?_ ?_ (by omega) ⟨_, by simp only [List.append_assoc]; rfl⟩
          · simp only [go_sem, Nat.reduceEqDiff, Nat.reduceLT, Nat.reduceAdd, Nat.reduceLeDiff, Nat.reduceMul, Nat.reduceSub, Int.reduceLE, Int.reduceLT, Int.reduceToNat, Int.reducePow, Int.reduceEq, List.length_append, List.length_cons, List.length_nil]
          · simp only [go_sem, Nat.reduceEqDiff, Nat.reduceLT, Nat.reduceAdd, Nat.reduceLeDiff, Nat.reduceMul, Nat.reduceSub, Int.reduceLE, Int.reduceLT, Int.reduceToNat, Int.reducePow, Int.reduceEq, f4]
          · simp
          · simp
          · simp
          · simp
          · simp
    · simp only [go_sem, Nat.reduceEqDiff, Nat.reduceLT, Nat.reduceAdd, Nat.reduceLeDiff, Nat.reduceMul, Nat.reduceSub, Int.reduceLE, Int.reduceLT, Int.reduceToNat, Int.reducePow, Int.reduceEq, hn30, Int.natCast_nonneg, Int.toNat_natCast]
      refine ⟨at_app hS, ?_⟩
      refine DR_fork [2, 8] (by decide +kernel) (fun hS => ?_)
      simp only [List.forall_mem_cons, List.not_mem_nil, false_imp_iff, implies_true, and_true]
      refine ⟨fun _ => ?_, fun _ => ?_⟩
      · simp only [go_sem, Nat.reduceEqDiff, Nat.reduceLT, Nat.reduceAdd, Nat.reduceLeDiff, Nat.reduceMul, Nat.reduceSub, Int.reduceLE, Int.reduceLT, Int.reduceToNat, Int.reducePow, Int.reduceEq, hn30, Int.natCast_nonneg, Int.toNat_natCast]
        refine ⟨at_app hS, ?_⟩
        refine DR_fork [8] (by decide +kernel) (fun hS => ?_)
        simp only [List.forall_mem_cons, List.not_mem_nil, false_imp_iff, implies_true, and_true]
        refine fun _ => ?_
        · simp only [go_sem, Nat.reduceEqDiff, Nat.reduceLT, Nat.reduceAdd, Nat.reduceLeDiff, Nat.reduceMul, Nat.reduceSub, Int.reduceLE, Int.reduceLT, Int.reduceToNat, Int.reducePow, Int.reduceEq, hn30, Int.natCast_nonneg, Int.toNat_natCast]
          refine ⟨at_app hS, ?_⟩
          (refine DR_quiet [9] (by decide +kernel) (fun M_ hS_ => ?_) (fun K2 hK2 => ?_); (focus (simp only [go_sem, Nat.reduceEqDiff, Nat.reduceLT, Nat.reduceAdd, Nat.reduceLeDiff, Nat.reduceMul, Nat.reduceSub, Int.reduceLE, Int.reduceLT, Int.reduceToNat, Int.reducePow, Int.reduceEq, hS_, hx1, hx2, hx3])); simp only [go_sem, Nat.reduceEqDiff, Nat.reduceLT, Nat.reduceAdd, Nat.reduceLeDiff, Nat.reduceMul, Nat.reduceSub, Int.reduceLE, Int.reduceLT, Int.reduceToNat, Int.reducePow, Int.reduceEq, hx1, hx2, hx3]; refine hK2 _ ?_; clear hK2)
          (refine DR_sole' 10 (by decide +kernel) (by simp only [go_sem, Nat.reduceEqDiff, Nat.reduceLT, Nat.reduceAdd, Nat.reduceLeDiff, Nat.reduceMul, Nat.reduceSub, Int.reduceLE, Int.reduceLT, Int.reduceToNat, Int.reducePow, Int.reduceEq, hx1]) ?_; simp only [go_sem, Nat.reduceEqDiff, Nat.reduceLT, Nat.reduceAdd, Nat.reduceLeDiff, Nat.reduceMul, Nat.reduceSub, Int.reduceLE, Int.reduceLT, Int.reduceToNat, Int.reducePow, Int.reduceEq, hx1])
          refine ⟨at_app (at_app hS), ?_⟩
          (refine DR_quiet [11] (by decide +kernel) (fun M_ hS_ => ?_) (fun K2 hK2 => ?_); (focus (simp only [go_sem, Nat.reduceEqDiff, Nat.reduceLT, Nat.reduceAdd, Nat.reduceLeDiff, Nat.reduceMul, Nat.reduceSub, Int.reduceLE, Int.reduceLT, Int.reduceToNat, Int.reducePow, Int.reduceEq, hS_])); simp only [go_sem, Nat.reduceEqDiff, Nat.reduceLT, Nat.reduceAdd, Nat.reduceLeDiff, Nat.reduceMul, Nat.reduceSub, Int.reduceLE, Int.reduceLT, Int.reduceToNat, Int.reducePow, Int.reduceEq]; refine hK2 _ ?_; clear hK2)
          (refine DR_end (by decide +kernel) (hK _ _ ?_); clear hK)
          refine fin _ _ (M.length + 4) (M.length + 2) M.length (M.length + 1) (M.length + 3) ?_ ?_ ?_ ?_ ?_ ?_ ?_ (by omega) ⟨_, by simp only [List.append_assoc]; rfl⟩
          · simp only [go_sem, Nat.reduceEqDiff, Nat.reduceLT, Nat.reduceAdd, Nat.reduceLeDiff, Nat.reduceMul, Nat.reduceSub, Int.reduceLE, Int.reduceLT, Int.reduceToNat, Int.reducePow, Int.reduceEq, List.length_append, List.length_cons, List.length_nil]
          · simp only [go_sem, Nat.reduceEqDiff, Nat.reduceLT, Nat.reduceAdd, Nat.reduceLeDiff, Nat.reduceMul, Nat.reduceSub, Int.reduceLE, Int.reduceLT, Int.reduceToNat, Int.reducePow, Int.reduceEq, f4]
          · simp
          · simp
          · simp
          · simp
          · simp
      · simp only [go_sem, Nat.reduceEqDiff, Nat.reduceLT, Nat.reduceAdd, Nat.reduceLeDiff, Nat.reduceMul, Nat.reduceSub, Int.reduceLE, Int.reduceLT, Int.reduceToNat, Int.reducePow, Int.reduceEq, hn30, Int.natCast_nonneg, Int.toNat_natCast]
        refine ⟨at_app hS, ?_⟩
        refine DR_fork [2] (by decide +kernel) (fun hS => ?_)
        simp only [List.forall_mem_cons, List.not_mem_nil, false_imp_iff, implies_true, and_true]
        refine fun _ => ?_
        · simp only [go_sem, Nat.reduceEqDiff, Nat.reduceLT, Nat.reduceAdd, Nat.reduceLeDiff, Nat.reduceMul, Nat.reduceSub, Int.reduceLE, Int.reduceLT, Int.reduceToNat, Int.reducePow, Int.reduceEq, hn30, Int.natCast_nonneg, Int.toNat_natCast]
          refine ⟨at_app hS, ?_⟩
          (refine DR_quiet [9] (by decide +kernel) (fun M_ hS_ => ?_) (fun K2 hK2 => ?_); (focus (simp only [go_sem, Nat.reduceEqDiff, Nat.reduceLT, Nat.reduceAdd, Nat.reduceLeDiff, Nat.reduceMul, Nat.reduceSub, Int.reduceLE, Int.reduceLT, Int.reduceToNat, Int.reducePow, Int.reduceEq, hS_, hx1, hx2, hx3])); simp only [go_sem, Nat.reduceEqDiff, Nat.reduceLT, Nat.reduceAdd, Nat.reduceLeDiff, Nat.reduceMul, Nat.reduceSub, Int.reduceLE, Int.reduceLT, Int.reduceToNat, Int.reducePow, Int.reduceEq, hx1, hx2, hx3]; refine hK2 _ ?_; clear hK2)
          (refine DR_sole' 10 (by decide +kernel) (by simp only [go_sem, Nat.reduceEqDiff, Nat.reduceLT, Nat.reduceAdd, Nat.reduceLeDiff, Nat.reduceMul, Nat.reduceSub, Int.reduceLE, Int.reduceLT, Int.reduceToNat, Int.reducePow, Int.reduceEq, hx1]) ?_; simp only [go_sem, Nat.reduceEqDiff, Nat.reduceLT, Nat.reduceAdd, Nat.reduceLeDiff, Nat.reduceMul, Nat.reduceSub, Int.reduceLE, Int.reduceLT, Int.reduceToNat, Int.reducePow, Int.reduceEq, hx1])
          refine ⟨at_app (at_app hS), ?_⟩
          (refine DR_quiet [11] (by decide +kernel) (fun M_ hS_ => ?_) (fun K2 hK2 => ?_); (focus (simp only [go_sem, Nat.reduceEqDiff, Nat.reduceLT, Nat.reduceAdd, Nat.reduceLeDiff, Nat.reduceMul, Nat.reduceSub, Int.reduceLE, Int.reduceLT, Int.reduceToNat, Int.reducePow, Int.reduceEq, hS_])); simp only [go_sem, Nat.reduceEqDiff, Nat.reduceLT, Nat.reduceAdd, Nat.reduceLeDiff, Nat.reduceMul, Nat.reduceSub, Int.reduceLE, Int.reduceLT, Int.reduceToNat, Int.reducePow, Int.reduceEq]; refine hK2 _ ?_; clear hK2)
          (refine DR_end (by decide +kernel) (hK _ _ ?_); clear hK)
          refine fin _ _ (M.length + 4) (M.length + 3) M.length (M.length + 1) (M.length + 2) ?_ ?_ ?_ ?_ ?_ ?_ ?_ (by omega) ⟨_, by simp only [List.append_assoc]; rfl⟩
          · simp only [go_sem, Nat.reduceEqDiff, Nat.reduceLT, Nat.reduceAdd, Nat.reduceLeDiff, Nat.reduceMul, Nat.reduceSub, Int.reduceLE, Int.reduceLT, Int.reduceToNat, Int.reducePow, Int.reduceEq, List.length_append, List.length_cons, List.length_nil]
          · simp only [go_sem, Nat.reduceEqDiff, Nat.reduceLT, Nat.reduceAdd, Nat.reduceLeDiff, Nat.reduceMul, Nat.reduceSub, Int.reduceLE, Int.reduceLT, Int.reduceToNat, Int.reducePow, Int.reduceEq, f4]
          · simp
          · simp
          · simp
          · simp
          · simp
    · simp only [go_sem, Nat.reduceEqDiff, Nat.reduceLT, Nat.reduceAdd, Nat.reduceLeDiff, Nat.reduceMul, Nat.reduceSub, Int.reduceLE, Int.reduceLT, Int.reduceToNat, Int.reducePow, Int.reduceEq, hn30, Int.natCast_nonneg, Int.toNat_natCast]
      refine ⟨at_app hS, ?_⟩
      refine DR_fork [2, 6] (by decide +kernel) (fun hS => ?_)
      simp only [List.forall_mem_cons, List.not_mem_nil, false_imp_iff, implies_true, and_true]
      refine ⟨fun _ => ?_, fun _ => ?_⟩
      · simp only [go_sem, Nat.reduceEqDiff, Nat.reduceLT, Nat.reduceAdd, Nat.reduceLeDiff, Nat.reduceMul, Nat.reduceSub, Int.reduceLE, Int.reduceLT, Int.reduceToNat, Int.reducePow, Int.reduceEq, hn30, Int.natCast_nonneg, Int.toNat_natCast]
        refine ⟨at_app hS, ?_⟩
        refine DR_fork [6] (by decide +kernel) (fun hS => ?_)
        simp only [List.forall_mem_cons, List.not_mem_nil, false_imp_iff, implies_true, and_true]
        refine fun _ => ?_
        · simp only [go_sem, Nat.reduceEqDiff, Nat.reduceLT, Nat.reduceAdd, Nat.reduceLeDiff, Nat.reduceMul, Nat.reduceSub, Int.reduceLE, Int.reduceLT, Int.reduceToNat, Int.reducePow, Int.reduceEq, hn30, Int.natCast_nonneg, Int.toNat_natCast]
          refine ⟨at_app hS, ?_⟩
          (refine DR_quiet [9] (by decide +kernel) (fun M_ hS_ => ?_) (fun K2 hK2 => ?_); (focus (simp only [go_sem, Nat.reduceEqDiff, Nat.reduceLT, Nat.reduceAdd, Nat.reduceLeDiff, Nat.reduceMul, Nat.reduceSub, Int.reduceLE, Int.reduceLT, Int.reduceToNat, Int.reducePow, Int.reduceEq, hS_, hx1, hx2, hx3])); simp only [go_sem, Nat.reduceEqDiff, Nat.reduceLT, Nat.reduceAdd, Nat.reduceLeDiff, Nat.reduceMul, Nat.reduceSub, Int.reduceLE, Int.reduceLT, Int.reduceToNat, Int.reducePow, Int.reduceEq, hx1, hx2, hx3]; refine hK2 _ ?_; clear hK2)
          (refine DR_sole' 10 (by decide +kernel) (by simp only [go_sem, Nat.reduceEqDiff, Nat.reduceLT, Nat.reduceAdd, Nat.reduceLeDiff, Nat.reduceMul, Nat.reduceSub, Int.reduceLE, Int.reduceLT, Int.reduceToNat, Int.reducePow, Int.reduceEq, hx1]) ?_; simp only [go_sem, Nat.reduceEqDiff, Nat.reduceLT, Nat.reduceAdd, Nat.reduceLeDiff, Nat.reduceMul, Nat.reduceSub, Int.reduceLE, Int.reduceLT, Int.reduceToNat, Int.reducePow, Int.reduceEq, hx1])
          refine ⟨at_app (at_app hS), ?_⟩
          (refine DR_quiet [11] (by decide +kernel) (fun M_ hS_ => ?_) (fun K2 hK2 => ?_); (focus (simp only [go_sem, Nat.reduceEqDiff, Nat.reduceLT, Nat.reduceAdd, Nat.reduceLeDiff, Nat.reduceMul, Nat.reduceSub, Int.reduceLE, Int.reduceLT, Int.reduceToNat, Int.reducePow, Int.reduceEq, hS_])); simp only [go_sem, Nat.reduceEqDiff, Nat.reduceLT, Nat.reduceAdd, Nat.reduceLeDiff, Nat.reduceMul, Nat.reduceSub, Int.reduceLE, Int.reduceLT, Int.reduceToNat, Int.reducePow, Int.reduceEq]; refine hK2 _ ?_; clear hK2)
          (refine DR_end (by decide +kernel) (hK _ _ ?_); clear hK)
          refine fin _ _ (M.length + 4) (M.length + 2) M.length (M.length + 3) (M.length + 1) ?_ ?_ ?_ ?_ ?_ ?_ ?_ (by omega) ⟨_, by simp only [List.append_assoc]; rfl⟩
          · simp only [go_sem, Nat.reduceEqDiff, Nat.reduceLT, Nat.reduceAdd, Nat.reduceLeDiff, Nat.reduceMul, Nat.reduceSub, Int.reduceLE, Int.reduceLT, Int.reduceToNat, Int.reducePow, Int.reduceEq, List.length_append, List.length_cons, List.length_nil]
          · simp only [go_sem, Nat.reduceEqDiff, Nat.reduceLT, Nat.reduceAdd, Nat.reduceLeDiff, Nat.reduceMul, Nat.reduceSub, Int.reduceLE, Int.reduceLT, Int.reduceToNat, Int.reducePow, Int.reduceEq, f4]
          · simp
          · simp
          · simp
          · simp
          · simp
      · simp only [go_sem, Nat.reduceEqDiff, Nat.reduceLT, Nat.reduceAdd, Nat.reduceLeDiff, Nat.reduceMul, Nat.reduceSub, Int.reduceLE, Int.reduceLT, Int.reduceToNat, Int.reducePow, Int.reduceEq, hn30, Int.natCast_nonneg, Int.toNat_natCast]
        refine ⟨at_app hS, ?_⟩
        refine DR_fork [2] (by decide +kernel) (fun hS => ?_)
        simp only [List.forall_mem_cons, List.not_mem_nil, false_imp_iff, implies_true, and_true]
        refine fun _ => ?_
        · simp only [go_sem, Nat.reduceEqDiff, Nat.reduceLT, Nat.reduceAdd, Nat.reduceLeDiff, Nat.reduceMul, Nat.reduceSub, Int.reduceLE, Int.reduceLT, Int.reduceToNat, Int.reducePow, Int.reduceEq, hn30, Int.natCast_nonneg, Int.toNat_natCast]
          refine ⟨at_app hS, ?_⟩
          (refine DR_quiet [9] (by decide +kernel) (fun M_ hS_ => ?_) (fun K2 hK2 => ?_); (focus (simp only [go_sem, Nat.reduceEqDiff, Nat.reduceLT, Nat.reduceAdd, Nat.reduceLeDiff, Nat.reduceMul, Nat.reduceSub, Int.reduceLE, Int.reduceLT, Int.reduceToNat, Int.reducePow, Int.reduceEq, hS_, hx1, hx2, hx3])); simp only [go_sem, Nat.reduceEqDiff, Nat.reduceLT, Nat.reduceAdd, Nat.reduceLeDiff, Nat.reduceMul, Nat.reduceSub, Int.reduceLE, Int.reduceLT, Int.reduceToNat, Int.reducePow, Int.reduceEq, hx1, hx2, hx3]; refine hK2 _ ?_; clear hK2)
          (refine DR_sole' 10 (by decide +kernel) (by simp only [go_sem, Nat.reduceEqDiff, Nat.reduceLT, Nat.reduceAdd, Nat.reduceLeDiff, Nat.reduceMul, Nat.reduceSub, Int.reduceLE, Int.reduceLT, Int.reduceToNat, Int.reducePow, Int.reduceEq, hx1]) ?_; simp only [go_sem, Nat.reduceEqDiff, Nat.reduceLT, Nat.reduceAdd, Nat.reduceLeDiff, Nat.reduceMul, Nat.reduceSub, Int.reduceLE, Int.reduceLT, Int.reduceToNat, Int.reducePow, Int.reduceEq, hx1])
          refine ⟨at_app (at_app hS), ?_⟩
          (refine DR_quiet [11] (by decide +kernel) (fun M_ hS_ => ?_) (fun K2 hK2 => ?_); (focus (simp only [go_sem, Nat.reduceEqDiff, Nat.reduceLT, Nat.reduceAdd, Nat.reduceLeDiff, Nat.reduceMul, Nat.reduceSub, Int.reduceLE, Int.reduceLT, Int.reduceToNat, Int.reducePow, Int.reduceEq, hS_])); simp only [go_sem, Nat.reduceEqDiff, Nat.reduceLT, Nat.reduceAdd, Nat.reduceLeDiff, Nat.reduceMul, Nat.reduceSub, Int.reduceLE, Int.reduceLT, Int.reduceToNat, Int.reducePow, Int.reduceEq]; refine hK2 _ ?_; clear hK2)
          (refine DR_end (by decide +kernel) (hK _ _ ?_); clear hK)
          refine fin _ _ (M.length + 4) (M.length + 3) M.length (M.length + 2) (M.length + 1) ?_ ?_ ?_ ?_ ?_ ?_ ?_ (by omega) ⟨_, by simp only [List.append_assoc]; rfl⟩
          · simp only [go_sem, Nat.reduceEqDiff, Nat.reduceLT, Nat.reduceAdd, Nat.reduceLeDiff, Nat.reduceMul, Nat.reduceSub, Int.reduceLE, Int.reduceLT, Int.reduceToNat, Int.reducePow, Int.reduceEq, List.length_append, List.length_cons, List.length_nil]
          · simp only [go_sem, Nat.reduceEqDiff, Nat.reduceLT, Nat.reduceAdd, Nat.reduceLeDiff, Nat.reduceMul, Nat.reduceSub, Int.reduceLE, Int.reduceLT, Int.reduceToNat, Int.reducePow, Int.reduceEq, f4]
          · simp
          · simp
          · simp
          · simp
          · simp
  · simp only [go_sem, Nat.reduceEqDiff, Nat.reduceLT, Nat.reduceAdd, Nat.reduceLeDiff, Nat.reduceMul, Nat.reduceSub, Int.reduceLE, Int.reduceLT, Int.reduceToNat, Int.reducePow, Int.reduceEq, hn30, Int.natCast_nonneg, Int.toNat_natCast]
    refine ⟨at_app hS, ?_⟩
    refine DR_fork [2, 4, 8] (by decide +kernel) (fun hS => ?_)
    simp only [List.forall_mem_cons, List.not_mem_nil, false_imp_iff, implies_true, and_true]
    refine ⟨fun _ => ?_, fun _ => ?_, fun _ => ?_⟩
    · simp only [go_sem, Nat.reduceEqDiff, Nat.reduceLT, Nat.reduceAdd, Nat.reduceLeDiff, Nat.reduceMul, Nat.reduceSub, Int.reduceLE, Int.reduceLT, Int.reduceToNat, Int.reducePow, Int.reduceEq, hn30, Int.natCast_nonneg, Int.toNat_natCast]
      refine ⟨at_app hS, ?_⟩
      refine DR_fork [4, 8] (by decide +kernel) (fun hS => ?_)
      simp only [List.forall_mem_cons, List.not_mem_nil, false_imp_iff, implies_true, and_true]
      refine ⟨fun _ => ?_, fun _ => ?_⟩
      · simp only [go_sem, Nat.reduceEqDiff, Nat.reduceLT, Nat.reduceAdd, Nat.reduceLeDiff, Nat.reduceMul, Nat.reduceSub, Int.reduceLE, Int.reduceLT, Int.reduceToNat, Int.reducePow, Int.reduceEq, hn30, Int.natCast_nonneg, Int.toNat_natCast]
        refine ⟨at_app hS, ?_⟩
        refine DR_fork [8] (by decide +kernel) (fun hS => ?_)
        simp only [List.forall_mem_cons, List.not_mem_nil, false_imp_iff, implies_true, and_true]
        refine fun _ => ?_
        · simp only [go_sem, Nat.reduceEqDiff, Nat.reduceLT, Nat.reduceAdd, Nat.reduceLeDiff, Nat.reduceMul, Nat.reduceSub, Int.reduceLE, Int.reduceLT, Int.reduceToNat, Int.reducePow, Int.reduceEq, hn30, Int.natCast_nonneg, Int.toNat_natCast]
          refine ⟨at_app hS, ?_⟩
          (refine DR_quiet [9] (by decide +kernel) (fun M_ hS_ => ?_) (fun K2 hK2 => ?_); (focus (simp only [go_sem, Nat.reduceEqDiff, Nat.reduceLT, Nat.reduceAdd, Nat.reduceLeDiff, Nat.reduceMul, Nat.reduceSub, Int.reduceLE, Int.reduceLT, Int.reduceToNat, Int.reducePow, Int.reduceEq, hS_, hx1, hx2, hx3])); simp only [go_sem, Nat.reduceEqDiff, Nat.reduceLT, Nat.reduceAdd, Nat.reduceLeDiff, Nat.reduceMul, Nat.reduceSub, Int.reduceLE, Int.reduceLT, Int.reduceToNat, Int.reducePow, Int.reduceEq, hx1, hx2, hx3]; refine hK2 _ ?_; clear hK2)
          (refine DR_sole' 10 (by decide +kernel) (by simp only [go_sem, Nat.reduceEqDiff, Nat.reduceLT, Nat.reduceAdd, Nat.reduceLeDiff, Nat.reduceMul, Nat.reduceSub, Int.reduceLE, Int.reduceLT, Int.reduceToNat, Int.reducePow, Int.reduceEq, hx1]) ?_; simp only [go_sem, Nat.reduceEqDiff, Nat.reduceLT, Nat.reduceAdd, Nat.reduceLeDiff, Nat.reduceMul, Nat.reduceSub, Int.reduceLE, Int.reduceLT, Int.reduceToNat, Int.reducePow, Int.reduceEq, hx1])
          refine ⟨at_app (at_app hS), ?_⟩
          (refine DR_quiet [11] (by decide +kernel) (fun M_ hS_ => ?_) (fun K2 hK2 => ?_); (focus (simp only [go_sem, Nat.reduceEqDiff, Nat.reduceLT, Nat.reduceAdd, Nat.reduceLeDiff, Nat.reduceMul, Nat.reduceSub, Int.reduceLE, Int.reduceLT, Int.reduceToNat, Int.reducePow, Int.reduceEq, hS_])); simp only [go_sem, Nat.reduceEqDiff, Nat.reduceLT, Nat.reduceAdd, Nat.reduceLeDiff, Nat.reduceMul, Nat.reduceSub, Int.reduceLE, Int.reduceLT, Int.reduceToNat, Int.reducePow, Int.reduceEq]; refine hK2 _ ?_; clear hK2)
          (refine DR_end (by decide +kernel) (hK _ _ ?_); clear hK)
          refine fin _ _ (M.length + 4) (M.length + 1) (M.length + 2) M.length (M.length + 3) ?_ ?_ ?_ ?_ ?_ ?_ ?_ (by omega) ⟨_, by simp only [List.append_assoc]; rfl⟩
          · simp only [go_sem, Nat.reduceEqDiff, Nat.reduceLT, Nat.reduceAdd, Nat.reduceLeDiff, Nat.reduceMul, Nat.reduceSub, Int.reduceLE, Int.reduceLT, Int.reduceToNat, Int.reducePow, Int.reduceEq, List.length_append, List.length_cons, List.length_nil]
          · simp only [go_sem, Nat.reduceEqDiff, Nat.reduceLT, Nat.reduceAdd, Nat.reduceLeDiff, Nat.reduceMul, Nat.reduceSub, Int.reduceLE, Int.reduceLT, Int.reduceToNat, Int.reducePow, Int.reduceEq, f4]
          · simp
          · simp
          · simp
          · simp
          · simp
      · simp only [go_sem, Nat.reduceEqDiff, Nat.reduceLT, Nat.reduceAdd, Nat.reduceLeDiff, Nat.reduceMul, Nat.reduceSub, Int.reduceLE, Int.reduceLT, Int.reduceToNat, Int.reducePow, Int.reduceEq, hn30, Int.natCast_nonneg, Int.toNat_natCast]
        refine ⟨at_app hS, ?_⟩
        refine DR_fork [4] (by decide +kernel) (fun hS => ?_)
        simp only [List.forall_mem_cons, List.not_mem_nil, false_imp_iff, implies_true, and_true]
        refine fun _ => ?_
        · simp only [go_sem, Nat.reduceEqDiff, Nat.reduceLT, Nat.reduceAdd, Nat.reduceLeDiff, Nat.reduceMul, Nat.reduceSub, Int.reduceLE, Int.reduceLT, Int.reduceToNat, Int.reducePow, Int.reduceEq, hn30, Int.natCast_nonneg, Int.toNat_natCast]
          refine ⟨at_app hS, ?_⟩
          (refine DR_quiet [9] (by decide +kernel) (fun M_ hS_ => ?_) (fun K2 hK2 => ?_); (focus (simp only [go_sem, Nat.reduceEqDiff, Nat.reduceLT, Nat.reduceAdd, Nat.reduceLeDiff, Nat.reduceMul, Nat.reduceSub, Int.reduceLE, Int.reduceLT, Int.reduceToNat, Int.reducePow, Int.reduceEq, hS_, hx1, hx2, hx3])); simp only [go_sem, Nat.reduceEqDiff, Nat.reduceLT, Nat.reduceAdd, Nat.reduceLeDiff, Nat.reduceMul, Nat.reduceSub, Int.reduceLE, Int.reduceLT, Int.reduceToNat, Int.reducePow, Int.reduceEq, hx1, hx2, hx3]; refine hK2 _ ?_; clear hK2)
          (refine DR_sole' 10 (by decide +kernel) (by simp only [go_sem, Nat.reduceEqDiff, Nat.reduceLT, Nat.reduceAdd, Nat.reduceLeDiff, Nat.reduceMul, Nat.reduceSub, Int.reduceLE, Int.reduceLT, Int.reduceToNat, Int.reducePow, Int.reduceEq, hx1]) ?_; simp only [go_sem, Nat.reduceEqDiff, Nat.reduceLT, Nat.reduceAdd, Nat.reduceLeDiff, Nat.reduceMul, Nat.reduceSub, Int.reduceLE, Int.reduceLT, Int.reduceToNat, Int.reducePow, Int.reduceEq, hx1])
          refine ⟨at_app (at_app hS), ?_⟩
          (refine DR_quiet [11] (by decide +kernel) (fun M_ hS_ => ?_) (fun K2 hK2 => ?_); (focus (simp only [go_sem, Nat.reduceEqDiff, Nat.reduceLT, Nat.reduceAdd, Nat.reduceLeDiff, Nat.reduceMul, Nat.reduceSub, Int.reduceLE, Int.reduceLT, Int.reduceToNat, Int.reducePow, Int.reduceEq, hS_])); simp only [go_sem, Nat.reduceEqDiff, Nat.reduceLT, Nat.reduceAdd, Nat.reduceLeDiff, Nat.reduceMul, Nat.reduceSub, Int.reduceLE, Int.reduceLT, Int.reduceToNat, Int.reducePow, Int.reduceEq]; refine hK2 _ ?_; clear hK2)
          (refine DR_end (by decide +kernel) (hK _ _ ?_); clear hK)
          refine fin _ _ (M.length + 4) (M.length + 1) (M.length + 3) M.length (M.length + 2) ?_ ?_ ?_ ?_ ?_ ?_ ?_ (by omega) ⟨_, by simp only [List.append_assoc]; rfl⟩
          · simp only [go_sem, Nat.reduceEqDiff, Nat.reduceLT, Nat.reduceAdd, Nat.reduceLeDiff, Nat.reduceMul, Nat.reduceSub, Int.reduceLE, Int.reduceLT, Int.reduceToNat, Int.reducePow, Int.reduceEq, List.length_append, List.length_cons, List.length_nil]
          · simp only [go_sem, Nat.reduceEqDiff, Nat.reduceLT, Nat.reduceAdd, Nat.reduceLeDiff, Nat.reduceMul, Nat.reduceSub, Int.reduceLE, Int.reduceLT, Int.reduceToNat, Int.reducePow, Int.reduceEq, f4]
          · simp
          · simp
          · simp
          · simp
          · simp
    · simp only [go_sem, Nat.reduceEqDiff, Nat.reduceLT, Nat.reduceAdd, Nat.reduceLeDiff, Nat.reduceMul, Nat.reduceSub, Int.reduceLE, Int.reduceLT, Int.reduceToNat, Int.reducePow, Int.reduceEq, hn30, Int.natCast_nonneg, Int.toNat_natCast]
      refine ⟨at_app hS, ?_⟩
      refine DR_fork [2, 8] (by decide +kernel) (fun hS => ?_)
      simp only [List.forall_mem_cons, List.not_mem_nil, false_imp_iff, implies_true, and_true]
      refine ⟨fun _ => ?_, fun _ => ?_⟩
      · simp only [go_sem, Nat.reduceEqDiff, Nat.reduceLT, Nat.reduceAdd, Nat.reduceLeDiff, Nat.reduceMul, Nat.reduceSub, Int.reduceLE, Int.reduceLT, Int.reduceToNat, Int.reducePow, Int.reduceEq, hn30, Int.natCast_nonneg, Int.toNat_natCast]
        refine ⟨at_app hS, ?_⟩
        refine DR_fork [8] (by decide +kernel) (fun hS => ?_)
        simp only [List.forall_mem_cons, List.not_mem_nil, false_imp_iff, implies_true, and_true]
        refine fun _ => ?_
        · simp only [go_sem, Nat.reduceEqDiff, Nat.reduceLT, Nat.reduceAdd, Nat.reduceLeDiff, Nat.reduceMul, Nat.reduceSub, Int.reduceLE, Int.reduceLT, Int.reduceToNat, Int.reducePow, Int.reduceEq, hn30, Int.natCast_nonneg, Int.toNat_natCast]
          refine ⟨at_app hS, ?_⟩
          (refine DR_quiet [9] (by decide +kernel) (fun M_ hS_ => ?_) (fun K2 hK2 => ?_); (focus (simp only [go_sem, Nat.reduceEqDiff, Nat.reduceLT, Nat.reduceAdd, Nat.reduceLeDiff, Nat.reduceMul, Nat.reduceSub, Int.reduceLE, Int.reduceLT, Int.reduceToNat, Int.reducePow, Int.reduceEq, hS_, hx1, hx2, hx3])); simp only [go_sem, Nat.reduceEqDiff, Nat.reduceLT, Nat.reduceAdd, Nat.reduceLeDiff, Nat.reduceMul, Nat.reduceSub, Int.reduceLE, Int.reduceLT, Int.reduceToNat, Int.reducePow, Int.reduceEq, hx1, hx2, hx3]; refine hK2 _ ?_; clear hK2)
          (refine DR_sole' 10 (by decide +kernel) (by simp only [go_sem, Nat.reduceEqDiff, Nat.reduceLT, Nat.reduceAdd, Nat.reduceLeDiff, Nat.reduceMul, Nat.reduceSub, Int.reduceLE, Int.reduceLT, Int.reduceToNat, Int.reducePow, Int.reduceEq, hx1]) ?_; simp only [go_sem, Nat.reduceEqDiff, Nat.reduceLT, Nat.reduceAdd, Nat.reduceLeDiff, Nat.reduceMul, Nat.reduceSub, Int.reduceLE, Int.reduceLT, Int.reduceToNat, Int.reducePow, Int.reduceEq, hx1])
          refine ⟨at_app (at_app hS), ?_⟩
          (refine DR_quiet [11] (by decide +kernel) (fun M_ hS_ => ?_) (fun K2 hK2 => ?_); (focus (simp only [go_sem, Nat.reduceEqDiff, Nat.reduceLT, Nat.reduceAdd, Nat.reduceLeDiff, Nat.reduceMul, Nat.reduceSub, Int.reduceLE, Int.reduceLT, Int.reduceToNat, Int.reducePow, Int.reduceEq, hS_])); simp only [go_sem, Nat.reduceEqDiff, Nat.reduceLT, Nat.reduceAdd, Nat.reduceLeDiff, Nat.reduceMul, Nat.reduceSub, Int.reduceLE, Int.reduceLT, Int.reduceToNat, Int.reducePow, Int.reduceEq]; refine hK2 _ ?_; clear hK2)
          (refine DR_end (by decide +kernel) (hK _ _ ?_); clear hK)
          refine fin _ _ (M.length + 4) (M.length + 2) (M.length + 1) M.length (M.length + 3) ?_ ?_ ?_ ?_ ?_ ?_ ?_ (by omega) ⟨_, by simp only [List.append_assoc]; rfl⟩
          · simp only [go_sem, Nat.reduceEqDiff, Nat.reduceLT, Nat.reduceAdd, Nat.reduceLeDiff, Nat.reduceMul, Nat.reduceSub, Int.reduceLE, Int.reduceLT, Int.reduceToNat, Int.reducePow, Int.reduceEq, List.length_append, List.length_cons, List.length_nil]
          · simp only [go_sem, Nat.reduceEqDiff, Nat.reduceLT, Nat.reduceAdd, Nat.reduceLeDiff, Nat.reduceMul, Nat.reduceSub, Int.reduceLE, Int.reduceLT, Int.reduceToNat, Int.reducePow, Int.reduceEq, f4]
          · simp
          · simp
          · simp
          · simp
          · simp
      · simp only [go_sem, Nat.reduceEqDiff, Nat.reduceLT, Nat.reduceAdd, Nat.reduceLeDiff, Nat.reduceMul, Nat.reduceSub, Int.reduceLE, Int.reduceLT, Int.reduceToNat, Int.reducePow, Int.reduceEq, hn30, Int.natCast_nonneg, Int.toNat_natCast]
        refine ⟨at_app hS, ?_⟩
        refine DR_fork [2] (by decide +kernel) (fun hS => ?_)
        simp only [List.forall_mem_cons, List.not_mem_nil, false_imp_iff, implies_true, and_true]
        refine fun _ => ?_
        · simp only [go_sem, Nat.reduceEqDiff, Nat.reduceLT, Nat.reduceAdd, Nat.reduceLeDiff, Nat.reduceMul, Nat.reduceSub, Int.reduceLE, Int.reduceLT, Int.reduceToNat, Int.reducePow, Int.reduceEq, hn30, Int.natCast_nonneg, Int.toNat_natCast]
          refine ⟨at_app hS, ?_⟩
          (refine DR_quiet [9] (by decide +kernel) (fun M_ hS_ => ?_) (fun K2 hK2 => ?_); (focus (simp only [go_sem, Nat.reduceEqDiff, Nat.reduceLT, Nat.reduceAdd, Nat.reduceLeDiff, Nat.reduceMul, Nat.reduceSub, Int.reduceLE, Int.reduceLT, Int.reduceToNat, Int.reducePow, Int.reduceEq, hS_, hx1, hx2, hx3])); simp only [go_sem, Nat.reduceEqDiff, Nat.reduceLT, Nat.reduceAdd, Nat.reduceLeDiff, Nat.reduceMul, Nat.reduceSub, Int.reduceLE, Int.reduceLT, Int.reduceToNat, Int.reducePow, Int.reduceEq, hx1, hx2, hx3]; refine hK2 _ ?_; clear hK2)
          (refine DR_sole' 10 (by decide +kernel) (by simp only [go_sem, Nat.reduceEqDiff, Nat.reduceLT, Nat.reduceAdd, Nat.reduceLeDiff, Nat.reduceMul, Nat.reduceSub, Int.reduceLE, Int.reduceLT, Int.reduceToNat, Int.reducePow, Int.reduceEq, hx1]) ?_; simp only [go_sem, Nat.reduceEqDiff, Nat.reduceLT, Nat.reduceAdd, Nat.reduceLeDiff, Nat.reduceMul, Nat.reduceSub, Int.reduceLE, Int.reduceLT, Int.reduceToNat, Int.reducePow, Int.reduceEq, hx1])
          refine ⟨at_app (at_app hS), ?_⟩
          (refine DR_quiet [11] (by decide +kernel) (fun M_ hS_ => ?_) (fun K2 hK2 => ?_); (focus (simp only [go_sem, Nat.reduceEqDiff, Nat.reduceLT, Nat.reduceAdd, Nat.reduceLeDiff, Nat.reduceMul, Nat.reduceSub, Int.reduceLE, Int.reduceLT, Int.reduceToNat, Int.reducePow, Int.reduceEq, hS_])); simp only [go_sem, Nat.reduceEqDiff, Nat.reduceLT, Nat.reduceAdd, Nat.reduceLeDiff, Nat.reduceMul, Nat.reduceSub, Int.reduceLE, Int.reduceLT, Int.reduceToNat, Int.reducePow, Int.reduceEq]; refine hK2 _ ?_; clear hK2)
          (refine DR_end (by decide +kernel) (hK _ _ ?_); clear hK)
          refine fin _ _ (M.length + 4) (M.length + 3) (M.length + 1) M.length (M.length + 2) ?_ ?_ ?_ ?_ ?_ ?_ ?_ (by omega) ⟨_, by simp only [List.append_assoc]; rfl⟩
          · simp only [go_sem, Nat.reduceEqDiff, Nat.reduceLT, Nat.reduceAdd, Nat.reduceLeDiff, Nat.reduceMul, Nat.reduceSub, Int.reduceLE, Int.reduceLT, Int.reduceToNat, Int.reducePow, Int.reduceEq, List.length_append, List.length_cons, List.length_nil]
          · simp only [go_sem, Nat.reduceEqDiff, Nat.reduceLT, Nat.reduceAdd, Nat.reduceLeDiff, Nat.reduceMul, Nat.reduceSub, Int.reduceLE, Int.reduceLT, Int.reduceToNat, Int.reducePow, Int.reduceEq, f4]
          · simp
          · simp
          · simp
          · simp
          · simp
    · simp only [go_sem, Nat.reduceEqDiff, Nat.reduceLT, Nat.reduceAdd, Nat.reduceLeDiff, Nat.reduceMul, Nat.reduceSub, Int.reduceLE, Int.reduceLT, Int.reduceToNat, Int.reducePow, Int.reduceEq, hn30, Int.natCast_nonneg, Int.toNat_natCast]
      refine ⟨at_app hS, ?_⟩
      refine DR_fork [2, 4] (by decide +kernel) (fun hS => ?_)
      simp only [List.forall_mem_cons, List.not_mem_nil, false_imp_iff, implies_true, and_true]
      refine ⟨fun _ => ?_, fun _ => ?_⟩
      · simp only [go_sem, Nat.reduceEqDiff, Nat.reduceLT, Nat.reduceAdd, Nat.reduceLeDiff, Nat.reduceMul, Nat.reduceSub, Int.reduceLE, Int.reduceLT, Int.reduceToNat, Int.reducePow, Int.reduceEq, hn30, Int.natCast_nonneg, Int.toNat_natCast]
        refine ⟨at_app hS, ?_⟩
        refine DR_fork [4] (by decide +kernel) (fun hS => ?_)
        simp only [List.forall_mem_cons, List.not_mem_nil, false_imp_iff, implies_true, and_true]
        refine fun _ => ?_
        · simp only [go_sem, Nat.reduceEqDiff, Nat.reduceLT, Nat.reduceAdd, Nat.reduceLeDiff, Nat.reduceMul, Nat.reduceSub, Int.reduceLE, Int.reduceLT, Int.reduceToNat, Int.reducePow, Int.reduceEq, hn30, Int.natCast_nonneg, Int.toNat_natCast]
          refine ⟨at_app hS, ?_⟩
          (refine DR_quiet [9] (by decide +kernel) (fun M_ hS_ => ?_) (fun K2 hK2 => ?_); (focus (simp only [go_sem, Nat.reduceEqDiff, Nat.reduceLT, Nat.reduceAdd, Nat.reduceLeDiff, Nat.reduceMul, Nat.reduceSub, Int.reduceLE, Int.reduceLT, Int.reduceToNat, Int.reducePow, Int.reduceEq, hS_, hx1, hx2, hx3])); simp only [go_sem, Nat.reduceEqDiff, Nat.reduceLT, Nat.reduceAdd, Nat.reduceLeDiff, Nat.reduceMul, Nat.reduceSub, Int.reduceLE, Int.reduceLT, Int.reduceToNat, Int.reducePow, Int.reduceEq, hx1, hx2, hx3]; refine hK2 _ ?_; clear hK2)
          (refine DR_sole' 10 (by decide +kernel) (by simp only [go_sem, Nat.reduceEqDiff, Nat.reduceLT, Nat.reduceAdd, Nat.reduceLeDiff, Nat.reduceMul, Nat.reduceSub, Int.reduceLE, Int.reduceLT, Int.reduceToNat, Int.reducePow, Int.reduceEq, hx1]) ?_; simp only [go_sem, Nat.reduceEqDiff, Nat.reduceLT, Nat.reduceAdd, Nat.reduceLeDiff, Nat.reduceMul, Nat.reduceSub, Int.reduceLE, Int.reduceLT, Int.reduceToNat, Int.reducePow, Int.reduceEq, hx1])
          refine ⟨at_app (at_app hS), ?_⟩
          (refine DR_quiet [11] (by decide +kernel) (fun M_ hS_ => ?_) (fun K2 hK2 => ?_); (focus (simp only [go_sem, Nat.reduceEqDiff, Nat.reduceLT, Nat.reduceAdd, Nat.reduceLeDiff, Nat.reduceMul, Nat.reduceSub, Int.reduceLE, Int.reduceLT, Int.reduceToNat, Int.reducePow, Int.reduceEq, hS_])); simp only [go_sem, Nat.reduceEqDiff, Nat.reduceLT, Nat.reduceAdd, Nat.reduceLeDiff, Nat.reduceMul, Nat.reduceSub, Int.reduceLE, Int.reduceLT, Int.reduceToNat, Int.reducePow, Int.reduceEq]; refine hK2 _ ?_; clear hK2)
          (refine DR_end (by decide +kernel) (hK _ _ ?_); clear hK)
          refine fin _ _ (M.length + 4) (M.length + 2) (M.length + 3) M.length (M.length + 1) ?_ ?_ ?_ ?_ ?_ ?_ ?_ (by omega) ⟨_, by simp only [List.append_assoc]; rfl⟩
          · simp only [go_sem, Nat.reduceEqDiff, Nat.reduceLT, Nat.reduceAdd, Nat.reduceLeDiff, Nat.reduceMul, Nat.reduceSub, Int.reduceLE, Int.reduceLT, Int.reduceToNat, Int.reducePow, Int.reduceEq, List.length_append, List.length_cons, List.length_nil]
          · simp only [go_sem, Nat.reduceEqDiff, Nat.reduceLT, Nat.reduceAdd, Nat.reduceLeDiff, Nat.reduceMul, Nat.reduceSub, Int.reduceLE, Int.reduceLT, Int.reduceToNat, Int.reducePow, Int.reduceEq, f4]
          · simp
          · simp
          · simp
          · simp
          · simp
      · simp only [go_sem, Nat.reduceEqDiff, Nat.reduceLT, Nat.reduceAdd, Nat.reduceLeDiff, Nat.reduceMul, Nat.reduceSub, Int.reduceLE, Int.reduceLT, Int.reduceToNat, Int.reducePow, Int.reduceEq, hn30, Int.natCast_nonneg, Int.toNat_natCast]
        refine ⟨at_app hS, ?_⟩
        refine DR_fork [2] (by decide +kernel) (fun hS => ?_)
        simp only [List.forall_mem_cons, List.not_mem_nil, false_imp_iff, implies_true, and_true]
        refine fun _ => ?_
        · simp only [go_sem, Nat.reduceEqDiff, Nat.reduceLT, Nat.reduceAdd, Nat.reduceLeDiff, Nat.reduceMul, Nat.reduceSub, Int.reduceLE, Int.reduceLT, Int.reduceToNat, Int.reducePow, Int.reduceEq, hn30, Int.natCast_nonneg, Int.toNat_natCast]
          refine ⟨at_app hS, ?_⟩
          (refine DR_quiet [9] (by decide +kernel) (fun M_ hS_ => ?_) (fun K2 hK2 => ?_); (focus (simp only [go_sem, Nat.reduceEqDiff, Nat.reduceLT, Nat.reduceAdd, Nat.reduceLeDiff, Nat.reduceMul, Nat.reduceSub, Int.reduceLE, Int.reduceLT, Int.reduceToNat, Int.reducePow, Int.reduceEq, hS_, hx1, hx2, hx3])); simp only [go_sem, Nat.reduceEqDiff, Nat.reduceLT, Nat.reduceAdd, Nat.reduceLeDiff, Nat.reduceMul, Nat.reduceSub, Int.reduceLE, Int.reduceLT, Int.reduceToNat, Int.reducePow, Int.reduceEq, hx1, hx2, hx3]; refine hK2 _ ?_; clear hK2)
          (refine DR_sole' 10 (by decide +kernel) (by simp only [go_sem, Nat.reduceEqDiff, Nat.reduceLT, Nat.reduceAdd, Nat.reduceLeDiff, Nat.reduceMul, Nat.reduceSub, Int.reduceLE, Int.reduceLT, Int.reduceToNat, Int.reducePow, Int.reduceEq, hx1]) ?_; simp only [go_sem, Nat.reduceEqDiff, Nat.reduceLT, Nat.reduceAdd, Nat.reduceLeDiff, Nat.reduceMul, Nat.reduceSub, Int.reduceLE, Int.reduceLT, Int.reduceToNat, Int.reducePow, Int.reduceEq, hx1])
          refine ⟨at_app (at_app hS), ?_⟩
          (refine DR_quiet [11] (by decide +kernel) (fun M_ hS_ => ?_) (fun K2 hK2 => ?_); (focus (simp only [go_sem, Nat.reduceEqDiff, Nat.reduceLT, Nat.reduceAdd, Nat.reduceLeDiff, Nat.reduceMul, Nat.reduceSub, Int.reduceLE, Int.reduceLT, Int.reduceToNat, Int.reducePow, Int.reduceEq, hS_])); simp only [go_sem, Nat.reduceEqDiff, Nat.reduceLT, Nat.reduceAdd, Nat.reduceLeDiff, Nat.reduceMul, Nat.reduceSub, Int.reduceLE, Int.reduceLT, Int.reduceToNat, Int.reducePow, Int.reduceEq]; refine hK2 _ ?_; clear hK2)
          (refine DR_end (by decide +kernel) (hK _ _ ?_); clear hK)
          refine fin _ _ (M.length + 4) (M.length + 3) (M.length + 2) M.length (M.length + 1) ?_ ?_ ?_ ?_ ?_ ?_ ?_ (by omega) ⟨_, by simp only [List.append_assoc]; rfl⟩
          · simp only [go_sem, Nat.reduceEqDiff, Nat.reduceLT, Nat.reduceAdd, Nat.reduceLeDiff, Nat.reduceMul, Nat.reduceSub, Int.reduceLE, Int.reduceLT, Int.reduceToNat, Int.reducePow, Int.reduceEq, List.length_append, List.length_cons, List.length_nil]
          · simp only [go_sem, Nat.reduceEqDiff, Nat.reduceLT, Nat.reduceAdd, Nat.reduceLeDiff, Nat.reduceMul, Nat.reduceSub, Int.reduceLE, Int.reduceLT, Int.reduceToNat, Int.reducePow, Int.reduceEq, f4]
          · simp
          · simp
          · simp
          · simp
          · simp
  · simp only [go_sem, Nat.reduceEqDiff, Nat.reduceLT, Nat.reduceAdd, Nat.reduceLeDiff, Nat.reduceMul, Nat.reduceSub, Int.reduceLE, Int.reduceLT, Int.reduceToNat, Int.reducePow, Int.reduceEq, hn30, Int.natCast_nonneg, Int.toNat_natCast]
    refine ⟨at_app hS, ?_⟩
    refine DR_fork [2, 4, 6] (by decide +kernel) (fun hS => ?_)
    simp only [List.forall_mem_cons, List.not_mem_nil, false_imp_iff, implies_true, and_true]
    refine ⟨fun _ => ?_, fun _ => ?_, fun _ => ?_⟩
    · simp only [go_sem, Nat.reduceEqDiff, Nat.reduceLT, Nat.reduceAdd, Nat.reduceLeDiff, Nat.reduceMul, Nat.reduceSub, Int.reduceLE, Int.reduceLT, Int.reduceToNat, Int.reducePow, Int.reduceEq, hn30, Int.natCast_nonneg, Int.toNat_natCast]
      refine ⟨at_app hS, ?_⟩
      refine DR_fork [4, 6] (by decide +kernel) (fun hS => ?_)
      simp only [List.forall_mem_cons, List.not_mem_nil, false_imp_iff, implies_true, and_true]
      refine ⟨fun _ => ?_, fun _ => ?_⟩
      · simp only [go_sem, Nat.reduceEqDiff, Nat.reduceLT, Nat.reduceAdd, Nat.reduceLeDiff, Nat.reduceMul, Nat.reduceSub, Int.reduceLE, Int.reduceLT, Int.reduceToNat, Int.reducePow, Int.reduceEq, hn30, Int.natCast_nonneg, Int.toNat_natCast]
        refine ⟨at_app hS, ?_⟩
        refine DR_fork [6] (by decide +kernel) (fun hS => ?_)
        simp only [List.forall_mem_cons, List.not_mem_nil, false_imp_iff, implies_true, and_true]
        refine fun _ => ?_
        · simp only [go_sem, Nat.reduceEqDiff, Nat.reduceLT, Nat.reduceAdd, Nat.reduceLeDiff, Nat.reduceMul, Nat.reduceSub, Int.reduceLE, Int.reduceLT, Int.reduceToNat, Int.reducePow, Int.reduceEq, hn30, Int.natCast_nonneg, Int.toNat_natCast]
          refine ⟨at_app hS, ?_⟩
          (refine DR_quiet [9] (by decide +kernel) (fun M_ hS_ => ?_) (fun K2 hK2 => ?_); (focus (simp only [go_sem, Nat.reduceEqDiff, Nat.reduceLT, Nat.reduceAdd, Nat.reduceLeDiff, Nat.reduceMul, Nat.reduceSub, Int.reduceLE, Int.reduceLT, Int.reduceToNat, Int.reducePow, Int.reduceEq, hS_, hx1, hx2, hx3])); simp only [go_sem, Nat.reduceEqDiff, Nat.reduceLT, Nat.reduceAdd, Nat.reduceLeDiff, Nat.reduceMul, Nat.reduceSub, Int.reduceLE, Int.reduceLT, Int.reduceToNat, Int.reducePow, Int.reduceEq, hx1, hx2, hx3]; refine hK2 _ ?_; clear hK2)
          (refine DR_sole' 10 (by decide +kernel) (by simp only [go_sem, Nat.reduceEqDiff, Nat.reduceLT, Nat.reduceAdd, Nat.reduceLeDiff, Nat.reduceMul, Nat.reduceSub, Int.reduceLE, Int.reduceLT, Int.reduceToNat, Int.reducePow, Int.reduceEq, hx1]) ?_; simp only [go_sem, Nat.reduceEqDiff, Nat.reduceLT, Nat.reduceAdd, Nat.reduceLeDiff, Nat.reduceMul, Nat.reduceSub, Int.reduceLE, Int.reduceLT, Int.reduceToNat, Int.reducePow, Int.reduceEq, hx1])
          refine ⟨at_app (at_app hS), ?_⟩
          (refine DR_quiet [11] (by decide +kernel) (fun M_ hS_ => ?_) (fun K2 hK2 => ?_); (focus (simp only [go_sem, Nat.reduceEqDiff, Nat.reduceLT, Nat.reduceAdd, Nat.reduceLeDiff, Nat.reduceMul, Nat.reduceSub, Int.reduceLE, Int.reduceLT, Int.reduceToNat, Int.reducePow, Int.reduceEq, hS_])); simp only [go_sem, Nat.reduceEqDiff, Nat.reduceLT, Nat.reduceAdd, Nat.reduceLeDiff, Nat.reduceMul, Nat.reduceSub, Int.reduceLE, Int.reduceLT, Int.reduceToNat, Int.reducePow, Int.reduceEq]; refine hK2 _ ?_; clear hK2)
          (refine DR_end (by decide +kernel) (hK _ _ ?_); clear hK)
          refine fin _ _ (M.length + 4) (M.length + 1) (M.length + 2) (M.length + 3) M.length ?_ ?_ ?_ ?_ ?_ ?_ ?_ (by omega) ⟨_, by simp only [List.append_assoc]; rfl⟩
          · simp only [go_sem, Nat.reduceEqDiff, Nat.reduceLT, Nat.reduceAdd, Nat.reduceLeDiff, Nat.reduceMul, Nat.reduceSub, Int.reduceLE, Int.reduceLT, Int.reduceToNat, Int.reducePow, Int.reduceEq, List.length_append, List.length_cons, List.length_nil]
          · simp only [go_sem, Nat.reduceEqDiff, Nat.reduceLT, Nat.reduceAdd, Nat.reduceLeDiff, Nat.reduceMul, Nat.reduceSub, Int.reduceLE, Int.reduceLT, Int.reduceToNat, Int.reducePow, Int.reduceEq, f4]
          · simp
          · simp
          · simp
          · simp
          · simp
      · simp only [go_sem, Nat.reduceEqDiff, Nat.reduceLT, Nat.reduceAdd, Nat.reduceLeDiff, Nat.reduceMul, Nat.reduceSub, Int.reduceLE, Int.reduceLT, Int.reduceToNat, Int.reducePow, Int.reduceEq, hn30, Int.natCast_nonneg, Int.toNat_natCast]
        refine ⟨at_app hS, ?_⟩
        refine DR_fork [4] (by decide +kernel) (fun hS => ?_)
        simp only [List.forall_mem_cons, List.not_mem_nil, false_imp_iff, implies_true, and_true]
        refine fun _ => ?_
        · simp only [go_sem, Nat.reduceEqDiff, Nat.reduceLT, Nat.reduceAdd, Nat.reduceLeDiff, Nat.reduceMul, Nat.reduceSub, Int.reduceLE, Int.reduceLT, Int.reduceToNat, Int.reducePow, Int.reduceEq, hn30, Int.natCast_nonneg, Int.toNat_natCast]
          refine ⟨at_app hS, ?_⟩
          (refine DR_quiet [9] (by decide +kernel) (fun M_ hS_ => ?_) (fun K2 hK2 => ?_); (focus (simp only [go_sem, Nat.reduceEqDiff, Nat.reduceLT, Nat.reduceAdd, Nat.reduceLeDiff, Nat.reduceMul, Nat.reduceSub, Int.reduceLE, Int.reduceLT, Int.reduceToNat, Int.reducePow, Int.reduceEq, hS_, hx1, hx2, hx3])); simp only [go_sem, Nat.reduceEqDiff, Nat.reduceLT, Nat.reduceAdd, Nat.reduceLeDiff, Nat.reduceMul, Nat.reduceSub, Int.reduceLE, Int.reduceLT, Int.reduceToNat, Int.reducePow, Int.reduceEq, hx1, hx2, hx3]; refine hK2 _ ?_; clear hK2)
          (refine DR_sole' 10 (by decide +kernel) (by simp only [go_sem, Nat.reduceEqDiff, Nat.reduceLT, Nat.reduceAdd, Nat.reduceLeDiff, Nat.reduceMul, Nat.reduceSub, Int.reduceLE, Int.reduceLT, Int.reduceToNat, Int.reducePow, Int.reduceEq, hx1]) ?_; simp only [go_sem, Nat.reduceEqDiff, Nat.reduceLT, Nat.reduceAdd, Nat.reduceLeDiff, Nat.reduceMul, Nat.reduceSub, Int.reduceLE, Int.reduceLT, Int.reduceToNat, Int.reducePow, Int.reduceEq, hx1])
          refine ⟨at_app (at_app hS), ?_⟩
          (refine DR_quiet [11] (by decide +kernel) (fun M_ hS_ => ?_) (fun K2 hK2 => ?_); (focus (simp only [go_sem, Nat.reduceEqDiff, Nat.reduceLT, Nat.reduceAdd, Nat.reduceLeDiff, Nat.reduceMul, Nat.reduceSub, Int.reduceLE, Int.reduceLT, Int.reduceToNat, Int.reducePow, Int.reduceEq, hS_])); simp only [go_sem, Nat.reduceEqDiff, Nat.reduceLT, Nat.reduceAdd, Nat.reduceLeDiff, Nat.reduceMul, Nat.reduceSub, Int.reduceLE, Int.reduceLT, Int.reduceToNat, Int.reducePow, Int.reduceEq]; refine hK2 _ ?_; clear hK2)
          (refine DR_end (by decide +kernel) (hK _ _ ?_); clear hK)
          refine fin _ _ (M.length + 4) (M.length + 1) (M.length + 3) (M.length + 2) M.length ?_ ?_ ?_ ?_ ?_ ?_ ?_ (by omega) ⟨_, by simp only [List.append_assoc]; rfl⟩
          · simp only [go_sem, Nat.reduceEqDiff, Nat.reduceLT, Nat.reduceAdd, Nat.reduceLeDiff, Nat.reduceMul, Nat.reduceSub, Int.reduceLE, Int.reduceLT, Int.reduceToNat, Int.reducePow, Int.reduceEq, List.length_append, List.length_cons, List.length_nil]
          · simp only [go_sem, Nat.reduceEqDiff, Nat.reduceLT, Nat.reduceAdd, Nat.reduceLeDiff, Nat.reduceMul, Nat.reduceSub, Int.reduceLE, Int.reduceLT, Int.reduceToNat, Int.reducePow, Int.reduceEq, f4]
          · simp
          · simp
          · simp
          · simp
          · simp
    · simp only [go_sem, Nat.reduceEqDiff, Nat.reduceLT, Nat.reduceAdd, Nat.reduceLeDiff, Nat.reduceMul, Nat.reduceSub, Int.reduceLE, Int.reduceLT, Int.reduceToNat, Int.reducePow, Int.reduceEq, hn30, Int.natCast_nonneg, Int.toNat_natCast]
      refine ⟨at_app hS, ?_⟩
      refine DR_fork [2, 6] (by decide +kernel) (fun hS => ?_)
      simp only [List.forall_mem_cons, List.not_mem_nil, false_imp_iff, implies_true, and_true]
      refine ⟨fun _ => ?_, fun _ => ?_⟩
      · simp only [go_sem, Nat.reduceEqDiff, Nat.reduceLT, Nat.reduceAdd, Nat.reduceLeDiff, Nat.reduceMul, Nat.reduceSub, Int.reduceLE, Int.reduceLT, Int.reduceToNat, Int.reducePow, Int.reduceEq, hn30, Int.natCast_nonneg, Int.toNat_natCast]
        refine ⟨at_app hS, ?_⟩
        refine DR_fork [6] (by decide +kernel) (fun hS => ?_)
        simp only [List.forall_mem_cons, List.not_mem_nil, false_imp_iff, implies_true, and_true]
        refine fun _ => ?_
        · simp only [go_sem, Nat.reduceEqDiff, Nat.reduceLT, Nat.reduceAdd, Nat.reduceLeDiff, Nat.reduceMul, Nat.reduceSub, Int.reduceLE, Int.reduceLT, Int.reduceToNat, Int.reducePow, Int.reduceEq, hn30, Int.natCast_nonneg, Int.toNat_natCast]
          refine ⟨at_app hS, ?_⟩
          (refine DR_quiet [9] (by decide +kernel) (fun M_ hS_ => ?_) (fun K2 hK2 => ?_); (focus (simp only [go_sem, Nat.reduceEqDiff, Nat.reduceLT, Nat.reduceAdd, Nat.reduceLeDiff, Nat.reduceMul, Nat.reduceSub, Int.reduceLE, Int.reduceLT, Int.reduceToNat, Int.reducePow, Int.reduceEq, hS_, hx1, hx2, hx3])); simp only [go_sem, Nat.reduceEqDiff, Nat.reduceLT, Nat.reduceAdd, Nat.reduceLeDiff, Nat.reduceMul, Nat.reduceSub, Int.reduceLE, Int.reduceLT, Int.reduceToNat, Int.reducePow, Int.reduceEq, hx1, hx2, hx3]; refine hK2 _ ?_; clear hK2)
          (refine DR_sole' 10 (by decide +kernel) (by simp only [go_sem, Nat.reduceEqDiff, Nat.reduceLT, Nat.reduceAdd, Nat.reduceLeDiff, Nat.reduceMul, Nat.reduceSub, Int.reduceLE, Int.reduceLT, Int.reduceToNat, Int.reducePow, Int.reduceEq, hx1]) ?_; simp only [go_sem, Nat.reduceEqDiff, Nat.reduceLT, Nat.reduceAdd, Nat.reduceLeDiff, Nat.reduceMul, Nat.reduceSub, Int.reduceLE, Int.reduceLT, Int.reduceToNat, Int.reducePow, Int.reduceEq, hx1])
          refine ⟨at_app (at_app hS), ?_⟩
          (refine DR_quiet [11] (by decide +kernel) (fun M_ hS_ => ?_) (fun K2 hK2 => ?_); (focus (simp only [go_sem, Nat.reduceEqDiff, Nat.reduceLT, Nat.reduceAdd, Nat.reduceLeDiff, Nat.reduceMul, Nat.reduceSub, Int.reduceLE, Int.reduceLT, Int.reduceToNat, Int.reducePow, Int.reduceEq, hS_])); simp only [go_sem, Nat.reduceEqDiff, Nat.reduceLT, Nat.reduceAdd, Nat.reduceLeDiff, Nat.reduceMul, Nat.reduceSub, Int.reduceLE, Int.reduceLT, Int.reduceToNat, Int.reducePow, Int.reduceEq]; refine hK2 _ ?_; clear hK2)
          (refine DR_end (by decide +kernel) (hK _ _ ?_); clear hK)
          refine fin _ _ (M.length + 4) (M.length + 2) (M.length + 1) (M.length + 3) M.length ?_ ?_ ?_ ?_ ?_ ?_ ?_ (by omega) ⟨_, by simp only [List.append_assoc]; rfl⟩
          · simp only [go_sem, Nat.reduceEqDiff, Nat.reduceLT, Nat.reduceAdd, Nat.reduceLeDiff, Nat.reduceMul, Nat.reduceSub, Int.reduceLE, Int.reduceLT, Int.reduceToNat, Int.reducePow, Int.reduceEq, List.length_append, List.length_cons, List.length_nil]
          · simp only [go_sem, Nat.reduceEqDiff, Nat.reduceLT, Nat.reduceAdd, Nat.reduceLeDiff, Nat.reduceMul, Nat.reduceSub, Int.reduceLE, Int.reduceLT, Int.reduceToNat, Int.reducePow, Int.reduceEq, f4]
          · simp
          · simp
          · simp
          · simp
          · simp
      · simp only [go_sem, Nat.reduceEqDiff, Nat.reduceLT, Nat.reduceAdd, Nat.reduceLeDiff, Nat.reduceMul, Nat.reduceSub, Int.reduceLE, Int.reduceLT, Int.reduceToNat, Int.reducePow, Int.reduceEq, hn30, Int.natCast_nonneg, Int.toNat_natCast]
        refine ⟨at_app hS, ?_⟩
        refine DR_fork [2] (by decide +kernel) (fun hS => ?_)
        simp only [List.forall_mem_cons, List.not_mem_nil, false_imp_iff, implies_true, and_true]
        refine fun _ => ?_
        · simp only [go_sem, Nat.reduceEqDiff, Nat.reduceLT, Nat.reduceAdd, Nat.reduceLeDiff, Nat.reduceMul, Nat.reduceSub, Int.reduceLE, Int.reduceLT, Int.reduceToNat, Int.reducePow, Int.reduceEq, hn30, Int.natCast_nonneg, Int.toNat_natCast]
          refine ⟨at_app hS, ?_⟩
          (refine DR_quiet [9] (by decide +kernel) (fun M_ hS_ => ?_) (fun K2 hK2 => ?_); (focus (simp only [go_sem, Nat.reduceEqDiff, Nat.reduceLT, Nat.reduceAdd, Nat.reduceLeDiff, Nat.reduceMul, Nat.reduceSub, Int.reduceLE, Int.reduceLT, Int.reduceToNat, Int.reducePow, Int.reduceEq, hS_, hx1, hx2, hx3])); simp only [go_sem, Nat.reduceEqDiff, Nat.reduceLT, Nat.reduceAdd, Nat.reduceLeDiff, Nat.reduceMul, Nat.reduceSub, Int.reduceLE, Int.reduceLT, Int.reduceToNat, Int.reducePow, Int.reduceEq, hx1, hx2, hx3]; refine hK2 _ ?_; clear hK2)
          (refine DR_sole' 10 (by decide +kernel) (by simp only [go_sem, Nat.reduceEqDiff, Nat.reduceLT, Nat.reduceAdd, Nat.reduceLeDiff, Nat.reduceMul, Nat.reduceSub, Int.reduceLE, Int.reduceLT, Int.reduceToNat, Int.reducePow, Int.reduceEq, hx1]) ?_; simp only [go_sem, Nat.reduceEqDiff, Nat.reduceLT, Nat.reduceAdd, Nat.reduceLeDiff, Nat.reduceMul, Nat.reduceSub, Int.reduceLE, Int.reduceLT, Int.reduceToNat, Int.reducePow, Int.reduceEq, hx1])
          refine ⟨at_app (at_app hS), ?_⟩
          (refine DR_quiet [11] (by decide +kernel) (fun M_ hS_ => ?_) (fun K2 hK2 => ?_); (focus (simp only [go_sem, Nat.reduceEqDiff, Nat.reduceLT, Nat.reduceAdd, Nat.reduceLeDiff, Nat.reduceMul, Nat.reduceSub, Int.reduceLE, Int.reduceLT, Int.reduceToNat, Int.reducePow, Int.reduceEq, hS_])); simp only [go_sem, Nat.reduceEqDiff, Nat.reduceLT, Nat.reduceAdd, Nat.reduceLeDiff, Nat.reduceMul, Nat.reduceSub, Int.reduceLE, Int.reduceLT, Int.reduceToNat, Int.reducePow, Int.reduceEq]; refine hK2 _ ?_; clear hK2)
          (refine DR_end (by decide +kernel) (hK _ _ ?_); clear hK)
          refine fin _ _ (M.length + 4) (M.length + 3) (M.length + 1) (M.length + 2) M.length ?_ ?_ ?_ ?_ ?_ ?_ ?_ (by omega) ⟨_, by simp only [List.append_assoc]; rfl⟩
          · simp only [go_sem, Nat.reduceEqDiff, Nat.reduceLT, Nat.reduceAdd, Nat.reduceLeDiff, Nat.reduceMul, Nat.reduceSub, Int.reduceLE, Int.reduceLT, Int.reduceToNat, Int.reducePow, Int.reduceEq, List.length_append, List.length_cons, List.length_nil]
          · simp only [go_sem, Nat.reduceEqDiff, Nat.reduceLT, Nat.reduceAdd, Nat.reduceLeDiff, Nat.reduceMul, Nat.reduceSub, Int.reduceLE, Int.reduceLT, Int.reduceToNat, Int.reducePow, Int.reduceEq, f4]
          · simp
          · simp
          · simp
          · simp
          · simp
    · simp only [go_sem, Nat.reduceEqDiff, Nat.reduceLT, Nat.reduceAdd, Nat.reduceLeDiff, Nat.reduceMul, Nat.reduceSub, Int.reduceLE, Int.reduceLT, Int.reduceToNat, Int.reducePow, Int.reduceEq, hn30, Int.natCast_nonneg, Int.toNat_natCast]
      refine ⟨at_app hS, ?_⟩
      refine DR_fork [2, 4] (by decide +kernel) (fun hS => ?_)
      simp only [List.forall_mem_cons, List.not_mem_nil, false_imp_iff, implies_true, and_true]
      refine ⟨fun _ => ?_, fun _ => ?_⟩
      · simp only [go_sem, Nat.reduceEqDiff, Nat.reduceLT, Nat.reduceAdd, Nat.reduceLeDiff, Nat.reduceMul, Nat.reduceSub, Int.reduceLE, Int.reduceLT, Int.reduceToNat, Int.reducePow, Int.reduceEq, hn30, Int.natCast_nonneg, Int.toNat_natCast]
        refine ⟨at_app hS, ?_⟩
        refine DR_fork [4] (by decide +kernel) (fun hS => ?_)
        simp only [List.forall_mem_cons, List.not_mem_nil, false_imp_iff, implies_true, and_true]
        refine fun _ => ?_
        · simp only [go_sem, Nat.reduceEqDiff, Nat.reduceLT, Nat.reduceAdd, Nat.reduceLeDiff, Nat.reduceMul, Nat.reduceSub, Int.reduceLE, Int.reduceLT, Int.reduceToNat, Int.reducePow, Int.reduceEq, hn30, Int.natCast_nonneg, Int.toNat_natCast]
          refine ⟨at_app hS, ?_⟩
          (refine DR_quiet [9] (by decide +kernel) (fun M_ hS_ => ?_) (fun K2 hK2 => ?_); (focus (simp only [go_sem, Nat.reduceEqDiff, Nat.reduceLT, Nat.reduceAdd, Nat.reduceLeDiff, Nat.reduceMul, Nat.reduceSub, Int.reduceLE, Int.reduceLT, Int.reduceToNat, Int.reducePow, Int.reduceEq, hS_, hx1, hx2, hx3])); simp only [go_sem, Nat.reduceEqDiff, Nat.reduceLT, Nat.reduceAdd, Nat.reduceLeDiff, Nat.reduceMul, Nat.reduceSub, Int.reduceLE, Int.reduceLT, Int.reduceToNat, Int.reducePow, Int.reduceEq, hx1, hx2, hx3]; refine hK2 _ ?_; clear hK2)
          (refine DR_sole' 10 (by decide +kernel) (by simp only [go_sem, Nat.reduceEqDiff, Nat.reduceLT, Nat.reduceAdd, Nat.reduceLeDiff, Nat.reduceMul, Nat.reduceSub, Int.reduceLE, Int.reduceLT, Int.reduceToNat, Int.reducePow, Int.reduceEq, hx1]) ?_; simp only [go_sem, Nat.reduceEqDiff, Nat.reduceLT, Nat.reduceAdd, Nat.reduceLeDiff, Nat.reduceMul, Nat.reduceSub, Int.reduceLE, Int.reduceLT, Int.reduceToNat, Int.reducePow, Int.reduceEq, hx1])
          refine ⟨at_app (at_app hS), ?_⟩
          (refine DR_quiet [11] (by decide +kernel) (fun M_ hS_ => ?_) (fun K2 hK2 => ?_); (focus (simp only [go_sem, Nat.reduceEqDiff, Nat.reduceLT, Nat.reduceAdd, Nat.reduceLeDiff, Nat.reduceMul, Nat.reduceSub, Int.reduceLE, Int.reduceLT, Int.reduceToNat, Int.reducePow, Int.reduceEq, hS_])); simp only [go_sem, Nat.reduceEqDiff, Nat.reduceLT, Nat.reduceAdd, Nat.reduceLeDiff, Nat.reduceMul, Nat.reduceSub, Int.reduceLE, Int.reduceLT, Int.reduceToNat, Int.reducePow, Int.reduceEq]; refine hK2 _ ?_; clear hK2)
          (refine DR_end (by decide +kernel) (hK _ _ ?_); clear hK)
          refine fin _ _ (M.length + 4) (M.length + 2) (M.length + 3) (M.length + 1) M.length ?_ ?_ ?_ ?_ ?_ ?_ ?_ (by omega) ⟨_, by simp only [List.append_assoc]; rfl⟩
          · simp only [go_sem, Nat.reduceEqDiff, Nat.reduceLT, Nat.reduceAdd, Nat.reduceLeDiff, Nat.reduceMul, Nat.reduceSub, Int.reduceLE, Int.reduceLT, Int.reduceToNat, Int.reducePow, Int.reduceEq, List.length_append, List.length_cons, List.length_nil]
          · simp only [go_sem, Nat.reduceEqDiff, Nat.reduceLT, Nat.reduceAdd, Nat.reduceLeDiff, Nat.reduceMul, Nat.reduceSub, Int.reduceLE, Int.reduceLT, Int.reduceToNat, Int.reducePow, Int.reduceEq, f4]
          · simp
          · simp
          · simp
          · simp
          · simp
      · simp only [go_sem, Nat.reduceEqDiff, Nat.reduceLT, Nat.reduceAdd, Nat.reduceLeDiff, Nat.reduceMul, Nat.reduceSub, Int.reduceLE, Int.reduceLT, Int.reduceToNat, Int.reducePow, Int.reduceEq, hn30, Int.natCast_nonneg, Int.toNat_natCast]
        refine ⟨at_app hS, ?_⟩
        refine DR_fork [2] (by decide +kernel) (fun hS => ?_)
        simp only [List.forall_mem_cons, List.not_mem_nil, false_imp_iff, implies_true, and_true]
        refine fun _ => ?_
        · simp only [go_sem, Nat.reduceEqDiff, Nat.reduceLT, Nat.reduceAdd, Nat.reduceLeDiff, Nat.reduceMul, Nat.reduceSub, Int.reduceLE, Int.reduceLT, Int.reduceToNat, Int.reducePow, Int.reduceEq, hn30, Int.natCast_nonneg, Int.toNat_natCast]
          refine ⟨at_app hS, ?_⟩
          (refine DR_quiet [9] (by decide +kernel) (fun M_ hS_ => ?_) (fun K2 hK2 => ?_); (focus (simp only [go_sem, Nat.reduceEqDiff, Nat.reduceLT, Nat.reduceAdd, Nat.reduceLeDiff, Nat.reduceMul, Nat.reduceSub, Int.reduceLE, Int.reduceLT, Int.reduceToNat, Int.reducePow, Int.reduceEq, hS_, hx1, hx2, hx3])); simp only [go_sem, Nat.reduceEqDiff, Nat.reduceLT, Nat.reduceAdd, Nat.reduceLeDiff, Nat.reduceMul, Nat.reduceSub, Int.reduceLE, Int.reduceLT, Int.reduceToNat, Int.reducePow, Int.reduceEq, hx1, hx2, hx3]; refine hK2 _ ?_; clear hK2)
          (refine DR_sole' 10 (by decide +kernel) (by simp only [go_sem, Nat.reduceEqDiff, Nat.reduceLT, Nat.reduceAdd, Nat.reduceLeDiff, Nat.reduceMul, Nat.reduceSub, Int.reduceLE, Int.reduceLT, Int.reduceToNat, Int.reducePow, Int.reduceEq, hx1]) ?_; simp only [go_sem, Nat.reduceEqDiff, Nat.reduceLT, Nat.reduceAdd, Nat.reduceLeDiff, Nat.reduceMul, Nat.reduceSub, Int.reduceLE, Int.reduceLT, Int.reduceToNat, Int.reducePow, Int.reduceEq, hx1])
          refine ⟨at_app (at_app hS), ?_⟩
          (refine DR_quiet [11] (by decide +kernel) (fun M_ hS_ => ?_) (fun K2 hK2 => ?_); (focus (simp only [go_sem, Nat.reduceEqDiff, Nat.reduceLT, Nat.reduceAdd, Nat.reduceLeDiff, Nat.reduceMul, Nat.reduceSub, Int.reduceLE, Int.reduceLT, Int.reduceToNat, Int.reducePow, Int.reduceEq, hS_])); simp only [go_sem, Nat.reduceEqDiff, Nat.reduceLT, Nat.reduceAdd, Nat.reduceLeDiff, Nat.reduceMul, Nat.reduceSub, Int.reduceLE, Int.reduceLT, Int.reduceToNat, Int.reducePow, Int.reduceEq]; refine hK2 _ ?_; clear hK2)
          (refine DR_end (by decide +kernel) (hK _ _ ?_); clear hK)
          refine fin _ _ (M.length + 4) (M.length + 3) (M.length + 2) (M.length + 1) M.length ?_ ?_ ?_ ?_ ?_ ?_ ?_ (by omega) ⟨_, by simp only [List.append_assoc]; rfl⟩
          · simp only [go_sem, Nat.reduceEqDiff, Nat.reduceLT, Nat.reduceAdd, Nat.reduceLeDiff, Nat.reduceMul, Nat.reduceSub, Int.reduceLE, Int.reduceLT, Int.reduceToNat, Int.reducePow, Int.reduceEq, List.length_append, List.length_cons, List.length_nil]
          · simp only [go_sem, Nat.reduceEqDiff, Nat.reduceLT, Nat.reduceAdd, Nat.reduceLeDiff, Nat.reduceMul, Nat.reduceSub, Int.reduceLE, Int.reduceLT, Int.reduceToNat, Int.reducePow, Int.reduceEq, f4]
          · simp
          · simp
          · simp
          · simp
          · simp
end Go.Ax

/- The abstract machine, part 12: a region whose order is open, where several operations can come. Conditions: none. -/
import Derived.Test.YtfpmohmhiecjfaaDoorAxS
set_option linter.unusedVariables false
set_option linter.unusedSimpArgs false
namespace Go.Ax
variable {P : Program} {pol : List Nat} {N : Nat} {ops : Array Oper}

theorem DR_fork {S : AMem → Prop} {K : Fr → AMem → Prop} {done : List Nat} {F : Fr} {M : AMem} (cand : List Nat)
    (hc : (decide (done.length < ops.size) && !(Region.ready .any ops (listedOf ops.size done)).isEmpty && (Region.ready .any ops (listedOf ops.size done)).all fun i => cand.contains i) = true)
    (h : S M → ∀ i ∈ cand, (Region.ready .any ops (listedOf ops.size done)).contains i = true → match ops[i]? with
      | some o => (match guardA (ops.toList.map (·.dst)) o F with
        | some true => (match stepA P (altOf pol o.dst) o (evalA F) M with
          | .val v M' => S M' ∧ DR P pol ops S K (done ++ [i]) (put o.dst v F) M'
          | _ => False)
        | _ => False)
      | none => False) : DR P pol ops S K done F M := by
  intro hS
  simp only [Bool.and_eq_true, decide_eq_true_eq, Bool.not_eq_true'] at hc
  obtain ⟨⟨h1, h2⟩, h3⟩ := hc
  have e : ops.size - done.length = (ops.size - (done.length + 1)) + 1 := by omega
  rw [e]
  refine ⟨fun h0 => (by rw [h0] at h2; cases h2), fun j hj => ?_⟩
  have hj2 : j ∈ cand := by
    have := List.all_eq_true.1 h3 j hj
    simpa using this
  have hh := h hS j hj2 (by simpa using hj)
  unfold AStep
  cases ho : ops[j]? with
  | none => rw [ho] at hh; exact hh.elim
  | some o =>
    rw [ho] at hh
    simp only at hh ⊢
    rw [guardA_eq] at hh
    generalize guardF (ops.toList.map (·.dst)) o (look F) = g at hh ⊢
    rcases g with _ | _ | _
    · exact hh.elim
    · exact hh.elim
    · simp only at hh ⊢
      rw [evalA_eq] at hh
      generalize stepA P (altOf pol o.dst) o (evalF (look F)) M = r at hh ⊢
      cases r with
      | val v M' =>
        have := hh.2 hh.1
        rw [listedOf_snoc, look_put, List.length_append, List.length_singleton] at this
        exact ⟨.inl hh.1, this⟩
      | _ => exact hh.elim

theorem at_app {M Y : AMem} {c : Nat} {o : AObj} (h : M[c]? = some o) : (M ++ Y)[c]? = some o := by
  rw [List.getElem?_append_left (List.getElem?_eq_some_iff.1 h).1]; exact h

theorem runA_take {dsts : List (Option Nat)} : ∀ (n : Nat) (l : List Oper) (F : Fr) (M : AMem) (F1 : Fr) (M1 : AMem), runA P pol N dsts (l.take n) F M = .done F1 M1 → runA P pol N dsts l F M = runA P pol N dsts (l.drop n) F1 M1
  | 0, l, F, M, F1, M1, h => by
    simp only [List.take_zero, runA] at h
    injection h with h1 h2
    subst h1; subst h2
    rfl
  | n + 1, [], F, M, F1, M1, h => by
    simp only [List.take_nil, runA] at h
    injection h with h1 h2
    subst h1; subst h2
    rfl
  | n + 1, o :: l, F, M, F1, M1, h => by
    simp only [List.take_succ_cons, List.drop_succ_cons, runA] at h ⊢
    generalize dstOk N o.dst = a at h ⊢
    generalize guardA dsts o F = b at h ⊢
    cases a
    · cases h
    rcases b with _ | _ | _
    · cases h
    · exact runA_take n l _ _ _ _ h
    · simp only at h ⊢
      generalize stepA P (altOf pol o.dst) o (evalA F) M = r at h ⊢
      cases r with
      | val v M' => exact runA_take n l _ _ _ _ h
      | call f args => cases h
      | bad => cases h

/-- A long region in parts: what is kept of the first n operations. -/
theorem WRun_cut {dsts : List (Option Nat)} {K : Fr → AMem → Prop} {l : List Oper} {F : Fr} {M : AMem} (n : Nat) (A : Fr → Prop) (h1 : ∃ F1, runA P pol N dsts (l.take n) F M = .done F1 M ∧ A F1)
    (h2 : ∀ F1, A F1 → WRun P pol N dsts K (runA P pol N dsts (l.drop n) F1 M)) : WRun P pol N dsts K (runA P pol N dsts l F M) := by
  obtain ⟨F1, h3, h4⟩ := h1
  rw [runA_take n l F M F1 M h3]
  exact h2 F1 h4
end Go.Ax

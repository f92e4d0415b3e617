import Derived.Test.YthbojmoiimknhaaSt6
set_option linter.unusedSimpArgs false
set_option linter.unusedVariables false
namespace Go.Ax
open Go.Proofs

/-- A closure that is called with numbers, one behind the other: what it answers, what it keeps in memory, what of memory is its own. -/
structure Clo (σ γ : Type) (fid : FuncId) (caps : List V) where
  Own : γ → Nat → Prop
  Inv : σ → γ → AMem → Prop
  stp : σ → Int → Int × σ
  cost : σ → Nat
  body : bodyT Try.prog fid = true
  lt : ∀ s g M j, Inv s g M → Own g j → j < M.length
  stable : ∀ s g M M', Inv s g M → M.length ≤ M'.length → (∀ j, Own g j → M'[j]? = M[j]?) → Inv s g M'
  pay : ∀ s p, cost (stp s p).2 ≤ cost s + 1
  call : ∀ s g M p, Inv s g M → cost s ≤ 2000000 → ACalls Try.prog fid (V.int p :: caps) M (fun r M' => r = V.int (stp s p).1 ∧ ∃ g', Inv (stp s p).2 g' M' ∧ M.length ≤ M'.length ∧
    (∀ j, j < M.length → ¬ Own g j → M'[j]? = M[j]?) ∧ (∀ j, Own g' j → Own g j ∨ M.length ≤ j))

section
variable {σ : Type}
def runL (stp : σ → Int → Int × σ) : σ → List Int → List Int × σ
  | s, [] => ([], s)
  | s, p :: ps => ((stp s p).1 :: (runL stp (stp s p).2 ps).1, (runL stp (stp s p).2 ps).2)

def runF (stp : σ → Int → Int × σ) (s : σ) (f : Frm) : Frm × σ :=
  if f.kind = 2 then ({ f with l := (runL stp s f.l).1, a := (stp (runL stp s f.l).2 f.a).1 }, (stp (runL stp s f.l).2 f.a).2)
  else ({ f with l := (runL stp s f.l).1 }, (runL stp s f.l).2)

def runFs (stp : σ → Int → Int × σ) : σ → List Frm → List Frm × σ
  | s, [] => ([], s)
  | s, f :: fs => ((runF stp s f).1 :: (runFs stp (runF stp s f).2 fs).1, (runFs stp (runF stp s f).2 fs).2)

theorem runL_length (stp : σ → Int → Int × σ) : ∀ (l : List Int) (s : σ), (runL stp s l).1.length = l.length
  | [], _ => rfl
  | _ :: l, s => by simp [runL, runL_length stp l]
end

/-- A word of a stack is written. -/
theorem stack_write {M : AMem} {i k : Nat} {most : Int} {ws : List Int} {cs : List V} (h : StackAt M i most ws (some k)) (hk : M[k]? = some (.cells cs)) {off : Nat} (ho : off < ws.length) (v : Int) :
    StackAt (M.set k (.cells (overA cs off [V.int v]))) i most (ws.set off v) (some k) := by
  obtain ⟨hki, cs', h1, h2⟩ := h.some k rfl
  have hkl : k < M.length := (List.getElem?_eq_some_iff.1 hk).1
  obtain rfl : cs' = cs := by rw [hk] at h1; injection h1 with h1; injection h1 with h1; exact h1.symm
  have hle : ws.length ≤ cs'.length := by
    have := congrArg List.length h2
    simp at this; omega
  refine ⟨?_, (fun h => by cases h), fun k' e => ?_⟩
  · rw [List.getElem?_set_ne hki, List.length_set]; exact h.cells
  · injection e with e
    subst e
    refine ⟨hki, _, List.getElem?_set_self hkl, ?_⟩
    rw [List.length_set, List.map_set, ← h2]
    apply List.ext_getElem?
    intro j
    rw [List.getElem?_take]
    by_cases hj : j < ws.length
    · rw [if_pos hj, overA_at (by simp; omega), List.getElem?_set, List.getElem?_take, if_pos hj]
      simp only [List.length_singleton, List.length_take]
      by_cases hjo : off = j
      · subst hjo
        rw [if_pos ⟨Nat.le_refl _, by omega⟩, if_pos rfl, if_pos (by omega)]
        simp
      · rw [if_neg (by omega), if_neg hjo]
    · rw [if_neg hj, List.getElem?_eq_none]
      simp; omega

theorem overA_lit (cs : List V) (off : Nat) (x : V) : cs.take off ++ (x :: cs.drop (off + 1)) = overA cs off [x] := rfl

theorem set_mid' (A B : List Int) (vs : List Int) (p v : Int) (r : List Int) : (A ++ (vs ++ (p :: (r ++ B)))).set (A.length + vs.length) v = A ++ (vs ++ [v] ++ r ++ B) := by
  rw [List.set_append_right _ _ (by omega), Nat.add_sub_cancel_left, List.set_append_right _ _ (by omega), Nat.sub_self]
  simp
end Go.Ax

/- Other names of variables change nothing of what Canon is. Conditions: none. -/
import Derived.Test.YtfpmohmhiecjfaaDoorUnT
set_option linter.unusedVariables false
set_option linter.unusedSimpArgs false
namespace Go.Ax
open Go.Uni

def InjOn (ρ : Nat → Nat) (S : Nat → Prop) : Prop := ∀ v w, S v → S w → ρ v = ρ w → v = w
def rsub (ρ : Nat → Nat) : Nat → Ty := fun v => .var (ρ v)
theorem addV_ren {ρ : Nat → Nat} {S : Nat → Prop} (h : InjOn ρ S) {acc : List Nat} {v : Nat} (ha : ∀ w ∈ acc, S w) (hv : S v) : addV (acc.map ρ) (ρ v) = (addV acc v).map ρ := by
  unfold addV
  by_cases e : v ∈ acc
  · rw [if_pos e, if_pos (List.mem_map_of_mem e)]
  · have : ¬ ρ v ∈ acc.map ρ := fun hc => by
      obtain ⟨w, hw, he⟩ := List.mem_map.1 hc
      have := h w v (ha w hw) hv he
      subst this; exact e hw
    rw [if_neg e, if_neg this]; simp
mutual
theorem varsF_ren {ρ : Nat → Nat} {S : Nat → Prop} (h : InjOn ρ S) : ∀ {t : Ty} {acc : List Nat}, (∀ w ∈ acc, S w) → (∀ w ∈ t.vars, S w) → varsF (acc.map ρ) (t.sub (rsub ρ)) = (varsF acc t).map ρ
  | .var v, acc, ha, hv => by
    rw [Ty.sub, rsub, varsF, varsF]
    exact addV_ren h ha (hv v (by simp [Ty.vars]))
  | .app f l, acc, ha, hv => by
    rw [Ty.sub, varsF, varsF]
    exact varsFL_ren h ha hv
theorem varsFL_ren {ρ : Nat → Nat} {S : Nat → Prop} (h : InjOn ρ S) : ∀ {l : List Ty} {acc : List Nat}, (∀ w ∈ acc, S w) → (∀ w ∈ Ty.varsL l, S w) → varsFL (acc.map ρ) (Ty.subL (rsub ρ) l) = (varsFL acc l).map ρ
  | [], acc, ha, hv => by rw [Ty.subL, varsFL, varsFL]
  | x :: l, acc, ha, hv => by
    rw [Ty.subL, varsFL, varsFL, varsF_ren h ha (fun w hw => hv w (by simp [Ty.varsL, hw]))]
    refine varsFL_ren h (fun w hw => ?_) (fun w hw => hv w (by simp [Ty.varsL, hw]))
    rcases varsF_mem.1 hw with h1 | h1
    · exact ha w h1
    · exact hv w (by simp [Ty.varsL, h1])
end
theorem idxOf_ren {ρ : Nat → Nat} {S : Nat → Prop} (h : InjOn ρ S) : ∀ {l : List Nat} {v : Nat}, (∀ w ∈ l, S w) → S v → (l.map ρ).idxOf (ρ v) = l.idxOf v
  | [], v, _, _ => by simp
  | x :: l, v, hl, hv => by
    have ih := idxOf_ren h (l := l) (v := v) (fun w hw => hl w (by simp [hw])) hv
    rw [List.map_cons, List.idxOf_cons, List.idxOf_cons, ih]
    by_cases e : x = v
    · subst e; simp
    · have e2 : ¬ ρ x = ρ v := fun hc => e (h x v (hl x (by simp)) hv hc)
      have e3 : (x == v) = false := by simpa using e
      have e4 : (ρ x == ρ v) = false := by simpa using e2
      rw [e3, e4]
/-- The same type with other names of variables. -/
theorem canon_ren {ρ : Nat → Nat} {t : Ty} (h : InjOn ρ (fun v => v ∈ t.vars)) : canon (t.sub (rsub ρ)) = canon t := by
  have hv : varsF [] (t.sub (rsub ρ)) = (varsF [] t).map ρ := varsF_ren h (acc := []) (fun w hw => (by cases hw)) (fun w hw => hw)
  rw [canon, hv, Ty.sub_sub, canon]
  refine Ty.sub_congr fun v hv' => ?_
  rw [rsub, Ty.sub, ren, ren, idxOf_ren h (fun w hw => by
    rcases varsF_mem.1 hw with h1 | h1
    · cases h1
    · exact h1) hv']
theorem idx_inj {l : List Nat} : InjOn (fun v => l.idxOf v) (fun v => v ∈ l) := fun v w hv hw e => by
  have h1 := List.getElem_idxOf (List.idxOf_lt_length_of_mem hv)
  have h2 := List.getElem_idxOf (List.idxOf_lt_length_of_mem hw)
  have e' : l.idxOf v = l.idxOf w := e
  simp only [e'] at h1
  exact h1.symm.trans h2
theorem canon_inj (t : Ty) : InjOn (fun v => (varsF [] t).idxOf v) (fun v => v ∈ t.vars) := fun v w hv hw e =>
  idx_inj v w (varsF_mem.2 (.inr hv)) (varsF_mem.2 (.inr hw)) e
theorem canon_canon (t : Ty) : canon (canon t) = canon t := canon_ren (canon_inj t)
end Go.Ax

/- Two that make one most generally differ by names of variables alone. Conditions: none. -/
import Derived.Test.YtfpmohmhiecjfaaDoorUnXp
set_option linter.unusedVariables false
set_option linter.unusedSimpArgs false
namespace Go.Ax
open Go.Uni
theorem sub_is_var {m : Nat → Ty} {t : Ty} {v : Nat} (h : t.sub m = .var v) : ∃ w, t = .var w := by
  cases t with
  | var w => exact ⟨w, rfl⟩
  | app f l => rw [Ty.sub] at h; cases h
def vof : Ty → Nat
  | .var w => w
  | .app _ _ => 0
theorem canon_alike {a b : Ty} {m1 m2 : Nat → Ty} (h1 : a.sub m2 = b) (h2 : b.sub m1 = a) : canon b = canon a := by
  have h3 : a.sub (fun v => (m2 v).sub m1) = a := by rw [← Ty.sub_sub, h1, h2]
  have h4 : ∀ v ∈ a.vars, (m2 v).sub m1 = .var v := sub_fix h3
  have h5 : ∀ v ∈ a.vars, m2 v = .var (vof (m2 v)) := fun v hv => by
    obtain ⟨w, hw⟩ := sub_is_var (h4 v hv)
    rw [hw]; rfl
  have h6 : a.sub m2 = a.sub (rsub fun v => vof (m2 v)) := Ty.sub_congr fun v hv => h5 v hv
  rw [← h1, h6]
  refine canon_ren fun v w hv hw e => ?_
  have e1 := h4 v hv
  have e2 := h4 w hw
  rw [h5 v hv] at e1
  rw [h5 w hw, ← e] at e2
  rw [e1] at e2
  injection e2
/-- Two pairs, one the other way round. -/
theorem swap_alike {x y : Ty} (hx : T6 x) (hy : T6 y) : ∃ res res' c c', Un Ty.var x y res c ∧ Un Ty.var y x res' c' ∧ ((res = none ∧ res' = none) ∨ ∃ m m', res = some m ∧ res' = some m' ∧ c ≤ 1099511627776 ∧ c' ≤ 1099511627776 ∧ UOk m ∧ UOk m' ∧ x.sub m = y.sub m ∧ ∀ t : Ty, canon (t.sub m') = canon (t.sub m)) := by
  obtain ⟨res, c, h1, h2, h3⟩ := UOk.start.step2 hx hy
  obtain ⟨res', c', h1', h2', h3'⟩ := UOk.start.step2 hy hx
  refine ⟨res, res', c, c', h1, h1', ?_⟩
  cases res with
  | none =>
    cases res' with
    | none => exact .inl ⟨rfl, rfl⟩
    | some m' =>
      obtain ⟨_, _, e, _⟩ := h2' m' rfl
      exact absurd e.symm (h3 rfl m' (Resp.start m'))
  | some m =>
    obtain ⟨a1, a2, e, a3, _⟩ := h2 m rfl
    cases res' with
    | none => exact absurd e.symm (h3' rfl m (Resp.start m))
    | some m' =>
      obtain ⟨b1, b2, e', b3, _⟩ := h2' m' rfl
      refine .inr ⟨m, m', rfl, rfl, a1, b1, a2, b2, e, fun t => ?_⟩
      have r1 : Resp m m' := a3 m' (Resp.start m') e'.symm
      have r2 : Resp m' m := b3 m (Resp.start m) e.symm
      exact canon_alike (r1.sub t) (r2.sub t)
end Go.Ax

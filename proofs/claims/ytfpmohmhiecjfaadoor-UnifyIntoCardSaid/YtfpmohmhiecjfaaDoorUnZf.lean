/- Two types that something makes one. Conditions: none. -/
import Derived.Test.YtfpmohmhiecjfaaDoorUnZd
set_option linter.unusedVariables false
set_option linter.unusedSimpArgs false
namespace Go.Ax
open Go.Uni

theorem match_law (D : List Nat) (t u : Ty) (θ : Nat → Ty) (ht : ∀ v ∈ t.vars, v ∈ D) (hu : ∀ v ∈ u.vars, v ∈ D) (h : t.sub θ = u.sub θ) (st : SN t) (su : SN u) :
    ∃ m c, Un Ty.var t u (some m) c ∧ c ≤ (t.sub θ).size ∧ t.sub m = u.sub m ∧ Resp m θ ∧ (∀ x : Ty, (∀ v ∈ x.vars, v ∈ D) → ∀ v ∈ (x.sub m).vars, v ∈ D) ∧ ∀ v, SN (m v) := by
  obtain ⟨res, c, h1, h2⟩ := tot D (t.size + u.size) (free D (fun _ => none)) _ _ _ _ Sbs.start (fun _ _ h => (by cases h)) (Nat.le_refl _) t u ⟨by omega, ht⟩ ⟨by omega, hu⟩ (Nat.le_refl _)
  cases res with
  | none => exact absurd (by simp [h]) (h2 θ (Resp.start θ))
  | some m =>
    obtain ⟨s', r', p1, p2, p3, p4, p5, p6, p7⟩ := h2
    have e : t.sub m = u.sub m := by simpa using p4
    have hr : Resp m θ := p6 θ (Resp.start θ) (by simp [h])
    have hz := size_mono θ (t.sub m)
    rw [hr.sub t] at hz
    simp only [Ty.sizeL] at p5
    refine ⟨m, c, h1, by omega, e, hr, fun x hx v hv => ?_, Un.sn h1 rfl (fun _ => trivial) st su⟩
    exact sub_in (B := x.size + (t.size + u.size)) p1 (fun n w hw => ⟨(p2 n w hw).1, Nat.le_trans (p2 n w hw).2.1 (by omega), (p2 n w hw).2.2⟩) ⟨by omega, hx⟩ v hv

/-- One after the other something in the place of a list's variables. -/
def putN (l : List Nat) (w : Nat → Ty) (i : Nat) : Nat → Ty := fun v => if l.idxOf v < i then w (l.idxOf v) else .var v
theorem putN_zero (l : List Nat) (w : Nat → Ty) (t : Ty) : t.sub (putN l w 0) = t := by
  have : putN l w 0 = Ty.var := by funext v; simp [putN]
  rw [this, Ty.sub_var]
theorem putN_step {l : List Nat} (h : l.Nodup) (w : Nat → Ty) (hw : ∀ j, ∀ v ∈ (w j).vars, v ∉ l) {i n : Nat} (hi : l[i]? = some n) {t : Ty} (ht : ∀ v ∈ t.vars, v ∈ l) : (t.sub (putN l w i)).put n (w i) = t.sub (putN l w (i + 1)) := by
  rw [Ty.put, Ty.sub_sub]
  refine Ty.sub_congr fun v hv => ?_
  have h1 := idx_at h hi v (ht v hv)
  have hn : n ∈ l := List.mem_of_getElem? hi
  unfold putN
  by_cases e : l.idxOf v < i
  · rw [if_pos e, if_pos (by omega)]
    exact Ty.put_none fun hc => hw _ n hc hn
  · rw [if_neg e, Ty.sub, one]
    by_cases e2 : v = n
    · rw [if_pos e2, if_pos (by have := h1.2 e2; omega), h1.2 e2]
    · have : ¬ l.idxOf v = i := fun e3 => e2 (h1.1 e3)
      rw [if_neg e2, if_neg (by omega)]
theorem putN_vars {l : List Nat} {w : Nat → Ty} {t : Ty} (ht : ∀ v ∈ t.vars, v ∈ l) : ∀ v ∈ (t.sub (putN l w l.length)).vars, ∃ j, j < l.length ∧ v ∈ (w j).vars := fun v hv => by
  obtain ⟨x, h1, h2⟩ := Ty.mem_vars_sub.1 hv
  have h3 := List.idxOf_lt_length_of_mem (ht x h1)
  unfold putN at h2
  rw [if_pos h3] at h2
  exact ⟨_, h3, h2⟩
/-- Put twice is put once, where what is put has none of the list's variables. -/
theorem putN_self {l : List Nat} {w : Nat → Ty} (hw : ∀ j, ∀ v ∈ (w j).vars, v ∉ l) {t : Ty} (ht : ∀ v ∈ t.vars, v ∈ l) : (t.sub (putN l w l.length)).sub (putN l w l.length) = t.sub (putN l w l.length) := by
  refine sub_self fun v hv => ?_
  obtain ⟨j, _, h⟩ := putN_vars ht v hv
  have h2 := hw j v h
  unfold putN
  rw [if_neg]
  intro hc
  have := List.idxOf_lt_length_iff.1 hc
  exact h2 this
theorem putN_size {l : List Nat} {w : Nat → Ty} {C : Nat} (hC : 1 ≤ C) (hw : ∀ j, (w j).size ≤ C) (i : Nat) (t : Ty) : (t.sub (putN l w i)).size ≤ t.size * C :=
  size_sub_le hC fun v _ => by unfold putN; split; exact hw _; rw [Ty.size]; exact hC
end Go.Ax

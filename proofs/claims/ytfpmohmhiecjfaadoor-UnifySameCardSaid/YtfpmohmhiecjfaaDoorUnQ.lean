/- A list of pairs that tells what all variables come to. Conditions: none. -/
import Derived.Test.YtfpmohmhiecjfaaDoorUnC
import Derived.Test.YtfpmohmhiecjfaaDoorUnO
set_option linter.unusedVariables false
set_option linter.unusedSimpArgs false
namespace Go.Ax
open Go.Uni

def VB (t : Ty) : Prop := ∀ v ∈ t.vars, v < 1000
structure Rep (l : PL) (m : Nat → Ty) : Prop where
  val : ∀ p ∈ l, p.2 = m p.1
  un : ∀ v, (∀ p ∈ l, p.1 ≠ v) → m v = .var v
  key : ∀ p ∈ l, ∀ w, p.1 ∉ (m w).vars
  nd : (l.map (·.1)).Nodup
  lt : ∀ p ∈ l, p.1 < 1000
  vb : ∀ v, v < 1000 → VB (m v)

theorem nodup_le : ∀ (n : Nat) (l : List Nat), l.Nodup → (∀ x ∈ l, x < n) → l.length ≤ n
  | 0, l, _, h => by
    cases l with
    | nil => simp
    | cons x l => have := h x (by simp); omega
  | n + 1, l, hd, h => by
    by_cases hm : n ∈ l
    · have h1 := nodup_le n (l.erase n) (hd.erase n) (fun x hx => by
        have h2 := (hd.mem_erase_iff).1 hx
        have := h x h2.2
        omega)
      rw [List.length_erase_of_mem hm] at h1
      omega
    · have := nodup_le n l hd (fun x hx => by
        have := h x hx
        have : x ≠ n := fun e => hm (e ▸ hx)
        omega)
      omega
theorem Rep.len {l : PL} {m : Nat → Ty} (h : Rep l m) : l.length ≤ 1000 := by
  have := nodup_le 1000 (l.map (·.1)) h.nd (fun x hx => by
    obtain ⟨p, hp, rfl⟩ := List.mem_map.1 hx
    exact h.lt p hp)
  simpa using this
theorem Rep.start : Rep [] Ty.var := ⟨by simp, fun _ _ => rfl, by simp, by simp, by simp, fun v hv w hw => by simp [Ty.vars] at hw; omega⟩
theorem VB.sub {m : Nat → Ty} (h : ∀ v, v < 1000 → VB (m v)) {t : Ty} (ht : VB t) : VB (t.sub m) := fun v hv => by
  obtain ⟨w, h1, h2⟩ := Ty.mem_vars_sub.1 hv
  exact h w (ht w h1) v h2
theorem VB.arg {f : ByteArray} {l : List Ty} (h : VB (.app f l)) {x : Ty} (hx : x ∈ l) : VB x := fun v hv => h v (Ty.mem_varsL.2 ⟨x, hx, hv⟩)

def asg : PL → Nat → Ty
  | [], v => .var v
  | p :: l, v => if v = p.1 then p.2 else asg l v
theorem appl_asg : ∀ (l : PL) (t : Ty), (∀ p ∈ l, ∀ q ∈ l, q.1 ∉ p.2.vars) → appl l t = t.sub (asg l)
  | [], t, _ => by
    have : asg [] = Ty.var := rfl
    rw [this, Ty.sub_var]; rfl
  | p :: l, t, h => by
    have h1 : appl (p :: l) t = appl l (t.put p.1 p.2) := rfl
    rw [h1, appl_asg l _ (fun a ha b hb => h a (by simp [ha]) b (by simp [hb])), Ty.put, Ty.sub_sub]
    refine Ty.sub_congr fun v _ => ?_
    by_cases e : v = p.1
    · subst e
      simp only [one, if_true, asg]
      refine sub_self fun w hw => ?_
      have : ∀ (k : PL), (∀ q ∈ k, q.1 ≠ w) → asg k w = .var w := by
        intro k
        induction k with
        | nil => intro _; rfl
        | cons q k ih =>
          intro hq
          have h2 := hq q (by simp)
          rw [asg, if_neg (fun e => h2 e.symm)]
          exact ih fun q hq' => hq q (by simp [hq'])
      exact this l fun q hq e => h p (by simp) q (by simp [hq]) (e ▸ hw)
    · simp [one, e, asg, Ty.sub]
theorem Rep.asg {l : PL} {m : Nat → Ty} (h : Rep l m) : Ax.asg l = m := by
  funext v
  have : ∀ (k : PL), (∀ p ∈ k, p ∈ l) → (∀ p ∈ l, p.1 = v → p ∈ k) → Ax.asg k v = m v := by
    intro k
    induction k with
    | nil =>
      intro _ h2
      exact (h.un v fun p hp e => by have := h2 p hp e; simp at this).symm
    | cons p k ih =>
      intro h1 h2
      by_cases e : v = p.1
      · subst e
        rw [Ax.asg, if_pos rfl]
        exact h.val p (h1 p (by simp))
      · rw [Ax.asg, if_neg e]
        refine ih (fun q hq => h1 q (by simp [hq])) fun q hq eq => ?_
        rcases List.mem_cons.1 (h2 q hq eq) with rfl | h3
        · exact absurd eq.symm e
        · exact h3
  exact this l (fun _ h => h) (fun _ h _ => h)
theorem Rep.appl {l : PL} {m : Nat → Ty} (h : Rep l m) (t : Ty) : Ax.appl l t = t.sub m := by
  rw [appl_asg l t (fun p hp q hq => by rw [h.val p hp]; exact h.key q hq p.1), h.asg]

def putAll (l : PL) (n : Nat) (u : Ty) : PL := l.map fun p => (p.1, p.2.put n u)
theorem Rep.bind {l : PL} {m : Nat → Ty} (h : Rep l m) {n : Nat} (hn : m n = .var n) (hlt : n < 1000) {u : Ty} (hu : u.sub m = u) (hv : VB u) (ho : n ∉ u.vars) : Rep (putAll l n u ++ [(n, u)]) (bind m n u) := by
  have hnk : ∀ p ∈ l, p.1 ≠ n := fun p hp e => by
    have := h.key p hp n
    rw [hn, e] at this
    simp [Ty.vars] at this
  refine ⟨?_, ?_, ?_, ?_, ?_, ?_⟩
  · intro p hp
    rcases List.mem_append.1 hp with hp | hp
    · obtain ⟨q, hq, rfl⟩ := List.mem_map.1 hp
      simp only [Uni.bind]
      rw [h.val q hq]
    · simp at hp; subst hp
      simp only [Uni.bind, hn, put_self]
  · intro v hv
    have h1 : v ≠ n := fun e => hv (n, u) (by simp) e.symm
    rw [Uni.bind, h.un v fun p hp => hv (p.1, p.2.put n u) (List.mem_append_left _ (List.mem_map_of_mem (f := fun p : Nat × Ty => (p.1, p.2.put n u)) hp)), Ty.put, Ty.sub]
    simp [one, h1]
  · intro p hp w hw
    rw [Uni.bind, mem_put] at hw
    rcases List.mem_append.1 hp with hp | hp
    · obtain ⟨q, hq, rfl⟩ := List.mem_map.1 hp
      rcases hw with ⟨h1, _⟩ | ⟨_, h1⟩
      · exact h.key q hq w h1
      · have h2 := sub_fix hu _ h1
        have h3 := h.key q hq q.1
        rw [h2] at h3
        simp [Ty.vars] at h3
    · simp at hp; subst hp
      rcases hw with ⟨_, h1⟩ | ⟨_, h1⟩
      · exact h1 rfl
      · exact ho h1
  · rw [List.map_append, putAll, List.map_map]
    have : ((fun x : Nat × Ty => x.fst) ∘ fun p : Nat × Ty => (p.1, p.2.put n u)) = fun x => x.1 := rfl
    rw [this, List.nodup_append]
    refine ⟨h.nd, by simp, fun a ha b hb => ?_⟩
    simp at hb; subst hb
    obtain ⟨p, hp, rfl⟩ := List.mem_map.1 ha
    exact hnk p hp
  · intro p hp
    rcases List.mem_append.1 hp with hp | hp
    · obtain ⟨q, hq, rfl⟩ := List.mem_map.1 hp
      exact h.lt q hq
    · simp at hp; subst hp; exact hlt
  · intro v hv' w hw
    rw [Uni.bind, mem_put] at hw
    rcases hw with ⟨h1, _⟩ | ⟨_, h1⟩
    · exact h.vb v hv' w h1
    · exact hv w h1
end Go.Ax

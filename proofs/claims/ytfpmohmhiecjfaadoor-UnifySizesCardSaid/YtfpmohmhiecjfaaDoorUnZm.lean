/- Two types of nine nodes, made one: all that is so of that. Conditions: none. -/
import Derived.Test.YtfpmohmhiecjfaaDoorUnSr
import Derived.Test.YtfpmohmhiecjfaaDoorUnXp
set_option linter.unusedVariables false
set_option linter.unusedSimpArgs false
namespace Go.Ax
open Go.Uni

structure CostOk (t : Ty) (n : Nat) : Prop where
  c : UniB.cost t ≤ n
  a : UniB.Ar2 t
theorem costL_app (l k : List Ty) : UniB.costL (l ++ k) = UniB.costL l + UniB.costL k := by
  induction l with
  | nil => simp [UniB.costL]
  | cons x l ih => rw [List.cons_append, UniB.costL, UniB.costL, ih]; omega
theorem argsG_cost {g : List Nd → Ty × Nat} (hg : ∀ l, CostOk (g l).1 (g l).2) (l : List Nd) : ∀ k, UniB.costL (argsG g l k).1 + 1 ≤ (argsG g l k).2 ∧ ∀ x ∈ (argsG g l k).1, UniB.Ar2 x
  | 0 => by simp [argsG, UniB.costL]
  | k + 1 => by
    obtain ⟨h1, h2⟩ := argsG_cost hg l k
    have h3 := hg (l.drop (min (argsG g l k).2 l.length))
    refine ⟨?_, fun x hx => ?_⟩
    · simp only [argsG]
      rw [costL_app, UniB.costL, UniB.costL]
      have := h3.c; omega
    · simp only [argsG] at hx
      rcases List.mem_append.1 hx with hx | hx
      · exact h2 x hx
      · simp at hx; subst hx; exact h3.a
theorem typF_cost : ∀ (d : Nat) (l : List Nd), CostOk (typF d l).1 (typF d l).2
  | 0, l => ⟨by simp [typF, UniB.cost], trivial⟩
  | d + 1, [] => ⟨by simp [typF, UniB.cost], trivial⟩
  | d + 1, x :: l => by
    rw [typF]
    split
    · refine ⟨?_, trivial⟩
      simp only [UniB.cost]
      split <;> omega
    · obtain ⟨h1, h2⟩ := argsG_cost (typF_cost d) (x :: l) (x.a % 3)
      obtain ⟨k1, k2, k3, k4, k5⟩ := argsG_ok (typF_ok d) (x :: l) (by simp) (x.a % 3) (by omega)
      rw [List.length_cons] at k1
      refine ⟨?_, ?_⟩
      · simp only [UniB.cost]; omega
      · simp only [UniB.Ar2, UniB.Ar2L_iff]; exact ⟨by omega, h2⟩

theorem sub_size {s : Ty} : ∀ {t : Ty}, UniB.Sub s t → s.size ≤ t.size
  | _, .refl _ => Nat.le_refl _
  | _, .arg _ x f l hx h => by
    have h1 := sub_size h
    have h2 := Uni.mem_size hx
    rw [Ty.size]; omega
theorem cost_size : ∀ (N : Nat) (t : Ty), t.size ≤ N → UniB.Ar2 t → t.size ≤ 2 * UniB.cost t + 1
  | 0, t, h, _ => by cases t <;> simp [Ty.size] at h
  | N + 1, .var v, _, _ => by rw [Ty.size]; omega
  | N + 1, .app f l, h, ha => by
    rw [UniB.Ar2, UniB.Ar2L_iff] at ha
    rw [Ty.size, UniB.cost]
    rw [Ty.size] at h
    match l, ha, h with
    | [], _, _ => simp [Ty.sizeL]
    | [a], ha, h =>
      simp only [Ty.sizeL, UniB.costL] at h ⊢
      have := cost_size N a (by omega) (ha.2 a (by simp))
      omega
    | [a, b], ha, h =>
      simp only [Ty.sizeL, UniB.costL] at h ⊢
      have := cost_size N a (by omega) (ha.2 a (by simp))
      have := cost_size N b (by omega) (ha.2 b (by simp))
      omega

theorem sizes_plain {x y : Ty} (hx : T6 x) (hy : T6 y) (ax : UniB.Ar2 x) (ay : UniB.Ar2 y) (cx : UniB.cost x ≤ 9) (cy : UniB.cost y ≤ 9) :
    ∃ res c, Un Ty.var x y res c ∧ ∀ m, res = some m → c ≤ 1099511627776 ∧ UOk m ∧ x.sub m = y.sub m ∧ c ≤ (x.sub m).size ∧ (x.sub m).size ≤ 500 := by
  have hclos : UniP.Clos (fun t => UniB.Sub t x ∨ UniB.Sub t y) := by
    intro f l h z hz
    rcases h with h | h
    · exact .inl (h.trans (.arg z z f l hz (.refl z)))
    · exact .inr (h.trans (.arg z z f l hz (.refl z)))
  obtain ⟨res, c, h1, h2⟩ := UniP.tot (x.vars ++ y.vars) (fun t => UniB.Sub t x ∨ UniB.Sub t y) hclos (free (x.vars ++ y.vars) fun _ => none) _ _ _ _ Sbs.start (fun _ _ h => (by cases h)) (Nat.le_refl _) x y
    ⟨.inl (.refl x), fun v hv => by simp [hv]⟩ ⟨.inr (.refl y), fun v hv => by simp [hv]⟩ (Nat.le_refl _)
  refine ⟨res, c, h1, fun m e => ?_⟩
  subst e
  obtain ⟨s, r, p1, p2, p3, p4, p5, p6, p7⟩ := h2
  have he : x.sub m = y.sub m := by simpa using p4
  simp only [Ty.sizeL] at p5
  have hl6 : ∀ v ∈ x.vars ++ y.vars, v < 6 := fun v hv => by
    rcases List.mem_append.1 hv with h | h
    · exact hx.lt v h
    · exact hy.lt v h
  have hz19 : ∀ t, (UniB.Sub t x ∨ UniB.Sub t y) → t.size ≤ 19 := fun t h => by
    have h3 := hx.size
    have h4 := hy.size
    rcases h with h | h
    · have := sub_size h; omega
    · have := sub_size h; omega
  have hU : UOk m := ⟨⟨s, r, p1, fun n t hn => by
    obtain ⟨q1, q2, q3⟩ := p2 n t hn
    exact ⟨mem_D6.2 (hl6 n q1), hz19 t q2, fun v hv => mem_D6.2 (hl6 v (q3 v hv))⟩⟩, Un.sn h1 rfl (fun _ => trivial) hx.sn hy.sn⟩
  have hu1 := hU.size x
  have hu2 := hx.size
  refine ⟨by omega, hU, he, by omega, ?_⟩
  have hdom : ∀ v, v ∉ x.vars ++ y.vars → m v = .var v := fun v hv => p1.un v (by
    cases h : s v with
    | none => rfl
    | some t => exact absurd (p2 v t h).1 hv)
  have hval : ∀ (k v : Nat), r v < k → 2 ≤ (m v).size → ∃ t, (UniB.Sub t x ∨ UniB.Sub t y) ∧ UniB.isApp t ∧ t.sub m = m v := by
    intro k
    induction k with
    | zero => intro v h; omega
    | succ k ih =>
      intro v hk h2
      cases hs : s v with
      | none => rw [p1.un v hs, Ty.size] at h2; omega
      | some t =>
        have hb := p1.bd v t hs
        cases t with
        | app f l => exact ⟨_, (p2 v _ hs).2.1, trivial, hb.symm⟩
        | var w =>
          have hr := p1.rank v _ hs w (by simp [Ty.vars])
          rw [Ty.sub] at hb
          obtain ⟨t, q1, q2, q3⟩ := ih w (by omega) (by rw [← hb]; exact h2)
          exact ⟨t, q1, q2, q3.trans hb.symm⟩
  by_cases hxa : UniB.isApp x
  · by_cases hya : UniB.isApp y
    · refine UniB.bound m x y hxa hya ax ay he cx cy hx.lt hy.lt (fun v _ h2 => ?_) hdom
      obtain ⟨t, q1, q2, q3⟩ := hval (r v + 1) v (by omega) h2
      rcases q1 with q1 | q1
      · exact ⟨x, by simp, t, q1, q2, q3⟩
      · exact ⟨y, by simp, t, q1, q2, q3⟩
    · have hz := cost_size _ x (Nat.le_refl _) ax
      cases y with
      | app f l => exact absurd trivial hya
      | var n =>
        cases x with
        | var k => exact hxa.elim
        | app f l =>
          cases h1 with
          | bindR _ _ _ f' l' n' h3 h4 h5 =>
            rw [Ty.sub_var] at h5 ⊢
            rw [sub_bind, Ty.sub_var, Ty.put_none h5]; omega
          | bindL _ _ _ n' h3 h4 h5 => rw [Ty.sub_var] at h3; cases h3
          | same _ _ _ n' h3 h4 => rw [Ty.sub_var] at h3; cases h3
          | app _ _ _ f' l' k' _ c' h3 h4 h5 h6 => rw [Ty.sub_var] at h4; cases h4
  · cases x with
    | app f l => exact absurd trivial hxa
    | var n =>
      have hz := cost_size _ y (Nat.le_refl _) ay
      cases h1 with
      | same _ _ _ n' h3 h4 => rw [Ty.sub_var, Ty.size]; omega
      | bindL _ _ _ n' h3 h4 h5 =>
        rw [Ty.sub_var] at h3 h5 ⊢
        injection h3 with h3
        subst h3
        rw [sub_bind, Ty.sub_var, put_self]; omega
      | bindR _ _ _ f' l' n' h3 h4 h5 => rw [Ty.sub_var] at h3; cases h3
      | app _ _ _ f' l' k' _ c' h3 h4 h5 h6 => rw [Ty.sub_var] at h3; cases h3
end Go.Ax

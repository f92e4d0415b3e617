/- Types, substitutions, what makes two types one: as plain law. Conditions: none. -/
set_option linter.unusedVariables false
set_option linter.unusedSimpArgs false
namespace Go.Uni

/-- A type: a variable, or a name and what it is of. -/
inductive Ty where
  | var (n : Nat)
  | app (f : ByteArray) (l : List Ty)

mutual
def Ty.sub (m : Nat → Ty) : Ty → Ty
  | .var n => m n
  | .app f l => .app f (Ty.subL m l)
def Ty.subL (m : Nat → Ty) : List Ty → List Ty
  | [] => []
  | x :: l => x.sub m :: Ty.subL m l
end

mutual
def Ty.vars : Ty → List Nat
  | .var n => [n]
  | .app _ l => Ty.varsL l
def Ty.varsL : List Ty → List Nat
  | [] => []
  | x :: l => x.vars ++ Ty.varsL l
end

mutual
def Ty.size : Ty → Nat
  | .var _ => 1
  | .app _ l => 1 + Ty.sizeL l
def Ty.sizeL : List Ty → Nat
  | [] => 0
  | x :: l => x.size + Ty.sizeL l
end

theorem Ty.subL_eq (m : Nat → Ty) : ∀ l : List Ty, Ty.subL m l = l.map (Ty.sub m)
  | [] => rfl
  | x :: l => by rw [Ty.subL, Ty.subL_eq m l]; rfl
theorem Ty.varsL_eq : ∀ l : List Ty, Ty.varsL l = l.flatMap Ty.vars
  | [] => rfl
  | x :: l => by rw [Ty.varsL, Ty.varsL_eq l]; rfl
theorem Ty.mem_varsL {l : List Ty} {v : Nat} : v ∈ Ty.varsL l ↔ ∃ x ∈ l, v ∈ x.vars := by rw [Ty.varsL_eq]; simp

mutual
theorem Ty.sub_congr {m m' : Nat → Ty} : ∀ {t : Ty}, (∀ v ∈ t.vars, m v = m' v) → t.sub m = t.sub m'
  | .var n, h => h n (by simp [Ty.vars])
  | .app f l, h => by rw [Ty.sub, Ty.sub, Ty.subL_congr (fun v hv => h v hv)]
theorem Ty.subL_congr {m m' : Nat → Ty} : ∀ {l : List Ty}, (∀ v ∈ Ty.varsL l, m v = m' v) → Ty.subL m l = Ty.subL m' l
  | [], _ => rfl
  | x :: l, h => by
    rw [Ty.subL, Ty.subL, Ty.sub_congr (fun v hv => h v (by simp [Ty.varsL, hv])), Ty.subL_congr (fun v hv => h v (by simp [Ty.varsL, hv]))]
end

mutual
theorem Ty.sub_var : ∀ t : Ty, t.sub Ty.var = t
  | .var _ => rfl
  | .app f l => by rw [Ty.sub, Ty.subL_var]
theorem Ty.subL_var : ∀ l : List Ty, Ty.subL Ty.var l = l
  | [] => rfl
  | x :: l => by rw [Ty.subL, Ty.sub_var, Ty.subL_var]
end

mutual
theorem Ty.sub_sub (m m' : Nat → Ty) : ∀ t : Ty, (t.sub m).sub m' = t.sub (fun v => (m v).sub m')
  | .var _ => rfl
  | .app f l => by simp only [Ty.sub]; rw [Ty.subL_subL]
theorem Ty.subL_subL (m m' : Nat → Ty) : ∀ l : List Ty, Ty.subL m' (Ty.subL m l) = Ty.subL (fun v => (m v).sub m') l
  | [] => rfl
  | x :: l => by simp only [Ty.subL]; rw [Ty.sub_sub, Ty.subL_subL]
end

mutual
theorem Ty.mem_vars_sub {m : Nat → Ty} {v : Nat} : ∀ {t : Ty}, v ∈ (t.sub m).vars ↔ ∃ w ∈ t.vars, v ∈ (m w).vars
  | .var n => by simp [Ty.sub, Ty.vars]
  | .app f l => by rw [Ty.sub, Ty.vars, Ty.vars]; exact Ty.mem_varsL_sub
theorem Ty.mem_varsL_sub {m : Nat → Ty} {v : Nat} : ∀ {l : List Ty}, v ∈ Ty.varsL (Ty.subL m l) ↔ ∃ w ∈ Ty.varsL l, v ∈ (m w).vars
  | [] => by simp [Ty.subL, Ty.varsL]
  | x :: l => by
    rw [Ty.subL, Ty.varsL, Ty.varsL, List.mem_append, Ty.mem_vars_sub, Ty.mem_varsL_sub]
    constructor
    · rintro (⟨w, h1, h2⟩ | ⟨w, h1, h2⟩)
      · exact ⟨w, by simp [h1], h2⟩
      · exact ⟨w, by simp [h1], h2⟩
    · rintro ⟨w, h1, h2⟩
      rcases List.mem_append.1 h1 with h1 | h1
      · exact .inl ⟨w, h1, h2⟩
      · exact .inr ⟨w, h1, h2⟩
end

/-- One variable has another type in its place. -/
def one (n : Nat) (u : Ty) : Nat → Ty := fun v => if v = n then u else .var v
def Ty.put (t : Ty) (n : Nat) (u : Ty) : Ty := t.sub (one n u)
theorem Ty.put_none {t u : Ty} {n : Nat} (h : n ∉ t.vars) : t.put n u = t := by
  have : t.put n u = t.sub Ty.var := Ty.sub_congr fun v hv => by
    have : v ≠ n := fun e => h (e ▸ hv)
    simp [one, this]
  rw [this, Ty.sub_var]
/-- A binding more. -/
def bind (m : Nat → Ty) (n : Nat) (u : Ty) : Nat → Ty := fun v => (m v).put n u
theorem sub_bind (m : Nat → Ty) (n : Nat) (u t : Ty) : t.sub (bind m n u) = (t.sub m).put n u := by rw [Ty.put, Ty.sub_sub]; rfl
theorem mem_put {t u : Ty} {n v : Nat} : v ∈ (t.put n u).vars ↔ (v ∈ t.vars ∧ v ≠ n) ∨ (n ∈ t.vars ∧ v ∈ u.vars) := by
  rw [Ty.put, Ty.mem_vars_sub]
  constructor
  · rintro ⟨w, h1, h2⟩
    by_cases h : w = n
    · subst h; simp [one] at h2; exact .inr ⟨h1, h2⟩
    · simp [one, h, Ty.vars] at h2; subst h2; exact .inl ⟨h1, h⟩
  · rintro (⟨h1, h2⟩ | ⟨h1, h2⟩)
    · exact ⟨v, h1, by simp [one, h2, Ty.vars]⟩
    · exact ⟨n, h1, by simp [one, h2]⟩

/-- What the map tells (s), what all variables come to (m), and in which order (r). -/
structure Sbs (s : Nat → Option Ty) (m : Nat → Ty) (r : Nat → Nat) : Prop where
  un : ∀ n, s n = none → m n = .var n
  bd : ∀ n t, s n = some t → m n = t.sub m
  rank : ∀ n t, s n = some t → ∀ v ∈ t.vars, r v < r n
  free : ∀ n, ∀ v ∈ (m n).vars, s v = none

theorem Sbs.start : Sbs (fun _ => none) Ty.var (fun _ => 0) := ⟨fun _ _ => rfl, fun _ _ h => (by cases h), fun _ _ h => (by cases h), fun _ _ _ => rfl⟩

theorem Sbs.idem {s : Nat → Option Ty} {m : Nat → Ty} {r : Nat → Nat} (h : Sbs s m r) (t : Ty) : (t.sub m).sub m = t.sub m := by
  rw [Ty.sub_sub]
  refine Ty.sub_congr fun v _ => ?_
  have : (m v).sub m = (m v).sub Ty.var := Ty.sub_congr fun w hw => h.un w (h.free v w hw)
  rw [this, Ty.sub_var]
theorem Sbs.free_sub {s : Nat → Option Ty} {m : Nat → Ty} {r : Nat → Nat} (h : Sbs s m r) {t : Ty} {v : Nat} (hv : v ∈ (t.sub m).vars) : s v = none := by
  obtain ⟨w, _, h2⟩ := Ty.mem_vars_sub.1 hv
  exact h.free w v h2

theorem max_bound (r : Nat → Nat) : ∀ l : List Nat, ∃ K, ∀ v ∈ l, r v < K
  | [] => ⟨0, fun v hv => by cases hv⟩
  | a :: l => by
    obtain ⟨K, hK⟩ := max_bound r l
    refine ⟨K + r a + 1, fun v hv => ?_⟩
    rcases List.mem_cons.1 hv with rfl | hv
    · omega
    · have := hK v hv; omega

/-- A variable that stands for nothing gets a type that it isn't in. -/
theorem Sbs.bind {s : Nat → Option Ty} {m : Nat → Ty} {r : Nat → Nat} (h : Sbs s m r) {n : Nat} {b : Ty} (hn : s n = none) (hb : n ∉ (b.sub m).vars) :
    ∃ r', Sbs (fun v => if v = n then some b else s v) (bind m n (b.sub m)) r' := by
  obtain ⟨K, hK⟩ := max_bound r b.vars
  refine ⟨fun v => if n ∈ (m v).vars then r v + K else r v, ?_, ?_, ?_, ?_⟩
  · intro v hv
    by_cases hvn : v = n
    · simp [hvn] at hv
    · simp [hvn] at hv
      rw [Uni.bind, h.un v hv, Ty.put, Ty.sub]
      simp [one, hvn]
  · intro v t hv
    by_cases hvn : v = n
    · simp [hvn] at hv
      subst hv
      subst hvn
      rw [sub_bind, Ty.put_none hb, Uni.bind, h.un v hn, Ty.put, Ty.sub]
      simp [one]
    · simp [hvn] at hv
      rw [sub_bind, Uni.bind, h.bd v t hv]
  · intro v t hv w hw
    by_cases hvn : v = n
    · simp [hvn] at hv
      subst hv
      subst hvn
      have h1 : v ∈ (m v).vars := by rw [h.un v hn]; simp [Ty.vars]
      have h2 : v ∉ (m w).vars := fun hc => hb (Ty.mem_vars_sub.2 ⟨w, hw, hc⟩)
      simp only [h1, h2, if_true, if_false]
      have := hK w hw; omega
    · simp [hvn] at hv
      have h1 := h.rank v t hv w hw
      have h2 : n ∈ (m w).vars → n ∈ (m v).vars := fun hc => by rw [h.bd v t hv]; exact Ty.mem_vars_sub.2 ⟨w, hw, hc⟩
      by_cases h3 : n ∈ (m w).vars
      · simp only [h3, h2 h3, if_true]; omega
      · simp only [h3, if_false]
        split <;> omega
  · intro v w hw
    rw [Uni.bind, mem_put] at hw
    have hwn : w ≠ n := by
      rcases hw with ⟨_, h1⟩ | ⟨_, h1⟩
      · exact h1
      · exact fun e => hb (e ▸ h1)
    simp only [hwn, if_false]
    rcases hw with ⟨h1, _⟩ | ⟨_, h1⟩
    · exact h.free v w h1
    · exact h.free_sub h1
end Go.Uni

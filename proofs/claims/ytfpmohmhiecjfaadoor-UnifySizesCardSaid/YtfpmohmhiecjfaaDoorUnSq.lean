/- How great two types get that are made one: a count over all parts of both. Conditions: none. -/
import Derived.Test.YtfpmohmhiecjfaaDoorUnSt
set_option linter.unusedVariables false
set_option linter.unusedSimpArgs false
namespace Go.UniB
open Go.Uni
open Classical

/-- A part of a type. -/
inductive Sub : Ty → Ty → Prop where
  | refl (t : Ty) : Sub t t
  | arg (s x : Ty) (f : ByteArray) (l : List Ty) (hx : x ∈ l) (h : Sub s x) : Sub s (.app f l)
theorem Sub.trans {a b : Ty} : ∀ {c : Ty}, Sub b c → Sub a b → Sub a c
  | _, .refl _, h => h
  | _, .arg _ x f l hx h2, h => .arg _ x f l hx (Sub.trans h2 h)
theorem Sub.vars {s : Ty} : ∀ {t : Ty}, Sub s t → ∀ v ∈ s.vars, v ∈ t.vars
  | _, .refl _, v, hv => hv
  | _, .arg _ x f l hx h, v, hv => Ty.mem_varsL.2 ⟨x, hx, Sub.vars h v hv⟩
theorem sub_cases {s : Ty} {f : ByteArray} {l : List Ty} (h : Sub s (.app f l)) : s = .app f l ∨ ∃ x ∈ l, Sub s x := by
  cases h
  · exact .inl rfl
  · rename_i x h hx
    exact .inr ⟨x, hx, h⟩
def isApp : Ty → Prop
  | .var _ => False
  | .app _ _ => True

mutual
/-- At most two arguments, all over. -/
def Ar2 : Ty → Prop
  | .var _ => True
  | .app _ l => l.length ≤ 2 ∧ Ar2L l
def Ar2L : List Ty → Prop
  | [] => True
  | x :: l => Ar2 x ∧ Ar2L l
end
theorem Ar2L_iff : ∀ {l : List Ty}, Ar2L l ↔ ∀ x ∈ l, Ar2 x
  | [] => by simp [Ar2L]
  | x :: l => by simp [Ar2L, Ar2L_iff (l := l)]
mutual
/-- What it costs to write a type down: a variable 0 is there for nothing. -/
def cost : Ty → Nat
  | .var v => if v = 0 then 0 else 1
  | .app _ l => 1 + costL l
def costL : List Ty → Nat
  | [] => 0
  | x :: l => cost x + costL l
end
mutual
/-- How many arguments of all applications don't come to what 0 comes to. -/
noncomputable def K (m : Nat → Ty) : Ty → Nat
  | .var _ => 0
  | .app _ l => KL m l
noncomputable def KL (m : Nat → Ty) : List Ty → Nat
  | [] => 0
  | x :: l => (if x.sub m = m 0 then 0 else 1) + K m x + KL m l
end
noncomputable def ne0 (m : Nat → Ty) (t : Ty) : Nat := if t.sub m = m 0 then 0 else 1
theorem ne0_le (m : Nat → Ty) (t : Ty) : ne0 m t ≤ 1 := by unfold ne0; split <;> omega
theorem KL_nil (m : Nat → Ty) : KL m [] = 0 := by rw [KL]
theorem KL_cons (m : Nat → Ty) (x : Ty) (l : List Ty) : KL m (x :: l) = ne0 m x + K m x + KL m l := by rw [KL]; rfl

mutual
theorem K_cost (m : Nat → Ty) : ∀ t : Ty, ne0 m t + K m t ≤ cost t
  | .var v => by
    rw [K, cost]
    by_cases h : v = 0
    · subst h; simp [ne0, Ty.sub]
    · have := ne0_le m (.var v)
      rw [if_neg h]; omega
  | .app f l => by
    rw [K, cost]
    have := KL_cost m l
    have := ne0_le m (.app f l)
    omega
theorem KL_cost (m : Nat → Ty) : ∀ l : List Ty, KL m l ≤ costL l
  | [] => by simp [KL, costL]
  | x :: l => by
    rw [KL_cons, costL]
    have := K_cost m x
    have := KL_cost m l
    omega
end
/-- There is a part that comes to what 0 comes to, and isn't a variable. -/
def Has0 (m : Nat → Ty) (t : Ty) : Prop := ∃ s, Sub s t ∧ isApp s ∧ s.sub m = m 0
theorem KL_cost2 (m : Nat → Ty) : ∀ l : List Ty, (∀ x ∈ l, Has0 m x → ne0 m x + K m x + 1 ≤ cost x) → (∃ x ∈ l, Has0 m x) → KL m l + 1 ≤ costL l
  | [], _, h => by obtain ⟨x, hx, _⟩ := h; cases hx
  | x :: l, ih, h => by
    rw [KL_cons, costL]
    obtain ⟨y, hy, h0⟩ := h
    have h1 := K_cost m x
    have h2 := KL_cost m l
    rcases List.mem_cons.1 hy with rfl | hy
    · have := ih y (by simp) h0; omega
    · have := KL_cost2 m l (fun z hz => ih z (by simp [hz])) ⟨y, hy, h0⟩; omega
theorem K_cost2 (m : Nat → Ty) : ∀ (N : Nat) (t : Ty), t.size ≤ N → Has0 m t → ne0 m t + K m t + 1 ≤ cost t
  | 0, t, h, _ => by cases t <;> simp [Ty.size] at h
  | N + 1, .var v, _, h => by
    obtain ⟨s, h1, h2, _⟩ := h
    cases h1
    exact h2.elim
  | N + 1, .app f l, hN, h => by
    rw [K, cost]
    obtain ⟨s, h1, h2, h3⟩ := h
    rcases sub_cases h1 with rfl | ⟨x, hx, h1⟩
    · have h4 := KL_cost m l
      have : ne0 m (.app f l) = 0 := by rw [ne0, if_pos h3]
      omega
    ·
      have h4 := KL_cost2 m l (fun y hy hh => K_cost2 m N y (by have := mem_size hy; rw [Ty.size] at hN; omega) hh) ⟨x, hx, s, h1, h2, h3⟩
      have := ne0_le m (.app f l)
      omega

theorem sz_pos (t : Ty) : 1 ≤ t.size := by cases t <;> rw [Ty.size] <;> omega
theorem sub_app' (m : Nat → Ty) (f : ByteArray) (l : List Ty) : (Ty.app f l).sub m = .app f (l.map (Ty.sub m)) := by rw [Ty.sub, Ty.subL_eq]
theorem arg_size (m : Nat → Ty) {f : ByteArray} {l : List Ty} {x : Ty} (hx : x ∈ l) : (x.sub m).size < ((Ty.app f l).sub m).size := by
  rw [sub_app', Ty.size]
  have := mem_size (List.mem_map_of_mem (f := Ty.sub m) hx)
  omega

/-- A type whose variables come to types that aren't great isn't great. -/
theorem phi (m : Nat → Ty) (B : Nat) (hB : 2 ≤ B) : ∀ (N : Nat) (f : ByteArray) (l : List Ty), (Ty.app f l).size ≤ N → Ar2 (.app f l) → (∀ v ∈ (Ty.app f l).vars, m v ≠ m 0 → (m v).size + 1 ≤ B) →
    ((m 0).size < ((Ty.app f l).sub m).size → 2 * ((m 0).size + 1) ≤ B) → 2 * (((Ty.app f l).sub m).size + 1) ≤ (K m (.app f l) + 2) * B
  | 0, f, l, h, _, _, _ => by rw [Ty.size] at h; omega
  | N + 1, f, l, hN, hA, h1, h2 => by
    rw [Ar2, Ar2L_iff] at hA
    have key : ∀ x ∈ l, 2 * ((x.sub m).size + 1) ≤ (ne0 m x + K m x + 1) * B := by
      intro x hx
      have hlt := arg_size m (f := f) hx
      have hxs := mem_size hx
      rw [Ty.size] at hN
      by_cases e : x.sub m = m 0
      · rw [e] at hlt ⊢
        have := h2 hlt
        have h3 : 1 * B ≤ (ne0 m x + K m x + 1) * B := Nat.mul_le_mul_right _ (by omega)
        omega
      · have hn : ne0 m x = 1 := by rw [ne0, if_neg e]
        rw [hn]
        cases x with
        | var v =>
          have := h1 v (Ty.mem_varsL.2 ⟨_, hx, by simp [Ty.vars]⟩) e
          rw [K, Ty.sub]
          omega
        | app g k =>
          have := phi m B hB N g k (by omega) (hA.2 _ hx) (fun v hv => h1 v (Ty.mem_varsL.2 ⟨_, hx, hv⟩)) (fun h => h2 (Nat.lt_trans h hlt))
          have h3 : (K m (.app g k) + 2) * B = (1 + K m (.app g k) + 1) * B := by congr 1; omega
          omega
    rw [K, sub_app', Ty.size]
    match l, hA.1, key with
    | [], _, _ =>
      simp [KL, Ty.sizeL]; omega
    | [a], _, key =>
      have ka := key a (by simp)
      simp only [List.map_cons, List.map_nil, Ty.sizeL, KL_cons, KL_nil]
      have : (ne0 m a + K m a + 0 + 2) * B = (ne0 m a + K m a + 1) * B + B := by rw [← Nat.succ_mul]
      omega
    | [a, b], _, key =>
      have ka := key a (by simp)
      have kb := key b (by simp)
      simp only [List.map_cons, List.map_nil, Ty.sizeL, KL_cons, KL_nil]
      have : (ne0 m a + K m a + (ne0 m b + K m b + 0) + 2) * B = (ne0 m a + K m a + 1) * B + (ne0 m b + K m b + 1) * B := by rw [← Nat.add_mul]; congr 1; omega
      omega
end Go.UniB

/- Both types are taken apart: one tree for each thing that a variable comes to. Conditions: none. -/
set_option linter.unusedVariables false
set_option linter.unusedSimpArgs false
namespace Go.UniB
open Go.Uni
open Classical

theorem KL_app (m : Nat → Ty) : ∀ l k : List Ty, KL m (l ++ k) = KL m l + KL m k
  | [], k => by rw [KL_nil]; simp
  | x :: l, k => by rw [List.cons_append, KL_cons, KL_cons, KL_app m l k]; omega

theorem split (m : Nat → Ty) {s : Ty} (hs : isApp s) {v : Nat} (hv : s.sub m = m v) : ∀ {t : Ty}, Sub s t → Ar2 t →
    ∃ t', t'.sub m = t.sub m ∧ K m t = K m t' + K m s ∧ Ar2 t' ∧ (∀ w ∈ t'.vars, w ∈ t.vars ∨ w = v) ∧ (t.sub m ≠ s.sub m → isApp t → isApp t') ∧
      (∀ s', Sub s' t → isApp s' → ∃ s'', (Sub s'' t' ∨ Sub s'' s) ∧ s''.sub m = s'.sub m ∧ isApp s'')
  | _, .refl _, hA => by
    refine ⟨.var v, hv.symm, by rw [K, Nat.zero_add], trivial, fun w hw => .inr (by simpa [Ty.vars] using hw), fun h => absurd rfl h, fun s' h1 h2 => ⟨s', .inr h1, rfl, h2⟩⟩
  | _, .arg _ x f l hx h, hA => by
    rw [Ar2, Ar2L_iff] at hA
    obtain ⟨x', h1, h2, h3, h4, _, h6⟩ := split m hs hv h (hA.2 x hx)
    obtain ⟨l1, l2, rfl⟩ := List.append_of_mem hx
    refine ⟨.app f (l1 ++ x' :: l2), ?_, ?_, ?_, ?_, fun _ _ => trivial, ?_⟩
    · rw [sub_app', sub_app']; simp [h1]
    · rw [K, K, KL_app, KL_app, KL_cons, KL_cons, h2]
      have : ne0 m x' = ne0 m x := by unfold ne0; rw [h1]
      omega
    · rw [Ar2, Ar2L_iff]
      refine ⟨by simpa using hA.1, fun y hy => ?_⟩
      rcases List.mem_append.1 hy with hy | hy
      · exact hA.2 y (by simp [hy])
      · rcases List.mem_cons.1 hy with rfl | hy
        · exact h3
        · exact hA.2 y (by simp [hy])
    · intro w hw
      obtain ⟨y, hy, hw2⟩ := Ty.mem_varsL.1 hw
      rcases List.mem_append.1 hy with hy | hy
      · exact .inl (Ty.mem_varsL.2 ⟨y, by simp [hy], hw2⟩)
      · rcases List.mem_cons.1 hy with rfl | hy
        · rcases h4 w hw2 with h5 | h5
          · exact .inl (Ty.mem_varsL.2 ⟨x, by simp, h5⟩)
          · exact .inr h5
        · exact .inl (Ty.mem_varsL.2 ⟨y, by simp [hy], hw2⟩)
    · intro s' hs' ha
      rcases sub_cases hs' with rfl | ⟨y, hy, h7⟩
      · exact ⟨.app f (l1 ++ x' :: l2), .inl (.refl _), by rw [sub_app', sub_app']; simp [h1], trivial⟩
      · rcases List.mem_append.1 hy with hy | hy
        · exact ⟨s', .inl (.arg _ y _ _ (by simp [hy]) h7), rfl, ha⟩
        · rcases List.mem_cons.1 hy with rfl | hy
          · obtain ⟨s'', h8, h9, h10⟩ := h6 s' h7 ha
            refine ⟨s'', ?_, h9, h10⟩
            rcases h8 with h8 | h8
            · exact .inl (.arg _ x' _ _ (by simp) h8)
            · exact .inr h8
          · exact ⟨s', .inl (.arg _ y _ _ (by simp [hy]) h7), rfl, ha⟩

noncomputable def KS (m : Nat → Ty) (l : List Ty) : Nat := (l.map (K m)).sum
theorem KS_app (m : Nat → Ty) (l k : List Ty) : KS m (l ++ k) = KS m l + KS m k := by simp [KS]
theorem KS_set (m : Nat → Ty) : ∀ (l : List Ty) (i : Nat) (t t' : Ty), l[i]? = some t → KS m (l.set i t') + K m t = KS m l + K m t'
  | [], i, t, t', h => by simp at h
  | x :: l, 0, t, t', h => by
    simp at h; subst h
    simp [KS]; omega
  | x :: l, i + 1, t, t', h => by
    have := KS_set m l i t t' (by simpa using h)
    simp [KS] at this ⊢
    omega

theorem forest (m : Nat → Ty) (D : List Nat) : ∀ (vs : List Nat) (F : List Ty), vs.Pairwise (fun a b => m a ≠ m b) → (∀ t ∈ F, Ar2 t ∧ ∀ w ∈ t.vars, w ∈ D) → (∀ v ∈ vs, v ∈ D ∧ ∃ t ∈ F, ∃ s, Sub s t ∧ isApp s ∧ s.sub m = m v) →
    ∃ G Ts : List Ty, G.length = F.length ∧ Ts.length = vs.length ∧ KS m G + KS m Ts = KS m F ∧ (∀ (i : Nat) (t : Ty), F[i]? = some t → ∃ t' : Ty, G[i]? = some t' ∧ t'.sub m = t.sub m ∧ (isApp t → (∀ v ∈ vs, m v ≠ t.sub m) → isApp t')) ∧
      (∀ (i v : Nat), vs[i]? = some v → ∃ T : Ty, Ts[i]? = some T ∧ T.sub m = m v ∧ isApp T) ∧ (∀ t ∈ G ++ Ts, Ar2 t ∧ ∀ w ∈ t.vars, w ∈ D)
  | [], F, _, hF, _ => ⟨F, [], rfl, rfl, by simp [KS], fun i t h => ⟨t, h, rfl, fun h _ => h⟩, fun i v h => by simp at h, by simpa using hF⟩
  | v :: vs, F, hp, hF, hV => by
    obtain ⟨hp1, hp2⟩ := List.pairwise_cons.1 hp
    obtain ⟨hvD, t, htF, s, h1, h2, h3⟩ := hV v (by simp)
    obtain ⟨i, hi⟩ := List.mem_iff_getElem?.1 htF
    obtain ⟨t', a1, a2, a3, a4, a5, a6⟩ := split m h2 h3 h1 (hF t htF).1
    have hil := (List.getElem?_eq_some_iff.1 hi).1
    have sA : ∀ {s t : Ty}, Sub s t → Ar2 t → Ar2 s := by
      intro s t h
      induction h with
      | refl => exact id
      | arg x f l hx _ ih =>
        intro h
        rw [Ar2, Ar2L_iff] at h
        first
          | exact ih (h.2 _ hx)
          | (rename_i hh; exact ih (h.2 _ hh))
    obtain ⟨G1, Ts, b1, b2, b3, b4, b5, b6⟩ := forest m D vs (F.set i t' ++ [s]) hp2 (by
      intro y hy
      rcases List.mem_append.1 hy with hy | hy
      · rcases List.mem_or_eq_of_mem_set hy with hy | rfl
        · exact hF y hy
        · refine ⟨a3, fun w hw => ?_⟩
          rcases a4 w hw with h | rfl
          · exact (hF t htF).2 w h
          · exact hvD
      · simp at hy; subst hy
        exact ⟨sA h1 (hF t htF).1, fun w hw => (hF t htF).2 w (h1.vars w hw)⟩) (by
      intro v' hv'
      obtain ⟨c1, t2, c2, s2, c3, c4, c5⟩ := hV v' (by simp [hv'])
      refine ⟨c1, ?_⟩
      obtain ⟨j, hj⟩ := List.mem_iff_getElem?.1 c2
      by_cases e : j = i
      · subst e
        rw [hi] at hj
        injection hj with hj; subst hj
        obtain ⟨s3, d1, d2, d3⟩ := a6 s2 c3 c4
        rcases d1 with d1 | d1
        · exact ⟨t', by refine List.mem_append_left _ ?_; exact List.mem_iff_getElem?.2 ⟨j, List.getElem?_set_self hil⟩, s3, d1, d3, d2.trans c5⟩
        · exact ⟨s, by simp, s3, d1, d3, d2.trans c5⟩
      · exact ⟨t2, by refine List.mem_append_left _ ?_; exact List.mem_iff_getElem?.2 ⟨j, by rw [List.getElem?_set_ne (fun h => e h.symm)]; exact hj⟩, s2, c3, c4, c5⟩)
    have hl : G1.length = F.length + 1 := by simpa using b1
    obtain ⟨T, e1, e2, e3⟩ := b4 F.length s (by rw [List.getElem?_append_right (by simp)]; simp)
    have hT : isApp T := e3 h2 (fun v' hv' e => hp1 v' hv' (by rw [← h3, ← e]))
    have hG1 : G1 = G1.take F.length ++ [T] := by
      have h5 := List.take_append_drop F.length G1
      have h6 : G1.drop F.length = [T] := by
        have hlt : F.length < G1.length := by omega
        rw [List.drop_eq_getElem_cons hlt, List.drop_eq_nil_of_le (by omega)]
        congr 1
        exact (List.getElem?_eq_some_iff.1 e1).2
      rw [h6] at h5
      exact h5.symm
    refine ⟨G1.take F.length, T :: Ts, by rw [List.length_take]; omega, by simp [b2], ?_, ?_, ?_, ?_⟩
    · have h5 : KS m G1 = KS m (G1.take F.length) + K m T := by
        conv => lhs; rw [hG1]
        rw [KS_app]; simp [KS]
      have h6 : KS m (T :: Ts) = K m T + KS m Ts := by simp [KS]
      have h7 := KS_set m F i t t' hi
      rw [KS_app] at b3
      have h8 : KS m [s] = K m s := by simp [KS]
      omega
    · intro j y hj
      have hjl := (List.getElem?_eq_some_iff.1 hj).1
      have h5 : (G1.take F.length)[j]? = G1[j]? := List.getElem?_take_of_lt hjl
      by_cases e : j = i
      · subst e
        rw [hi] at hj
        injection hj with hj; subst hj
        obtain ⟨t2, f1, f2, f3⟩ := b4 j t' (by rw [List.getElem?_append_left (by simpa using hil), List.getElem?_set_self hil])
        refine ⟨t2, h5.trans f1, f2.trans a1, fun g1 g2 => f3 (a5 (fun h => g2 v (by simp) (h3.symm.trans h.symm)) g1) (fun v' hv' h => g2 v' (by simp [hv']) (h.trans a1))⟩
      · obtain ⟨t2, f1, f2, f3⟩ := b4 j y (by rw [List.getElem?_append_left (by simpa using hjl), List.getElem?_set_ne (fun h => e h.symm)]; exact hj)
        exact ⟨t2, h5.trans f1, f2, fun g1 g2 => f3 g1 (fun v' hv' => g2 v' (by simp [hv']))⟩
    · intro j w hj
      cases j with
      | zero =>
        simp at hj; subst hj
        exact ⟨T, rfl, e2.trans h3, hT⟩
      | succ j =>
        obtain ⟨T2, f1, f2, f3⟩ := b5 j w (by simpa using hj)
        exact ⟨T2, by simpa using f1, f2, f3⟩
    · intro y hy
      have : y ∈ G1 ++ Ts := by
        rw [hG1]
        simp only [List.mem_append, List.mem_cons] at hy ⊢
        rcases hy with hy | rfl | hy
        · exact .inl (.inl hy)
        · exact .inl (.inr (by simp))
        · exact .inr hy
      exact b6 y this
end Go.UniB

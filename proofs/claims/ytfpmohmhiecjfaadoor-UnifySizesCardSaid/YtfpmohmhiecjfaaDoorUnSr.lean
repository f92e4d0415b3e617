/- What two types of nine nodes come to, made one, has at most 500 parts. Conditions: none. -/
import Derived.Test.YtfpmohmhiecjfaaDoorUnSq
import Derived.Test.YtfpmohmhiecjfaaDoorUnQ
set_option linter.unusedVariables false
set_option linter.unusedSimpArgs false
namespace Go.UniB
open Go.Uni
open Classical

noncomputable def PW (m : Nat → Ty) : List Ty → Nat
  | [] => 1
  | w :: W => (2 + K m w) * PW m W
theorem PW_mid (m : Nat → Ty) (T : Ty) : ∀ l k : List Ty, PW m (l ++ T :: k) = (2 + K m T) * PW m (l ++ k)
  | [], k => rfl
  | x :: l, k => by rw [List.cons_append, List.cons_append, PW, PW, PW_mid m T l k, Nat.mul_left_comm]
theorem max_mid (f : Ty → Nat) : ∀ (W : List Ty), W ≠ [] → ∃ l T k, W = l ++ T :: k ∧ ∀ w ∈ W, f w ≤ f T
  | [], h => absurd rfl h
  | [x], _ => ⟨[], x, [], rfl, fun w hw => by simp at hw; subst hw; exact Nat.le_refl _⟩
  | x :: y :: W, _ => by
    obtain ⟨l, T, k, h1, h2⟩ := max_mid f (y :: W) (by simp)
    by_cases h : f x ≤ f T
    · refine ⟨x :: l, T, k, by rw [h1]; rfl, fun w hw => ?_⟩
      rcases List.mem_cons.1 hw with rfl | hw
      · exact h
      · exact h2 w hw
    · refine ⟨[], x, y :: W, rfl, fun w hw => ?_⟩
      rcases List.mem_cons.1 hw with rfl | hw
      · exact Nat.le_refl _
      · have := h2 w hw; omega
theorem var_size (m : Nat → Ty) {t : Ty} (ht : isApp t) {v : Nat} (hv : v ∈ t.vars) : (m v).size < (t.sub m).size := by
  cases t with
  | var w => exact ht.elim
  | app f l =>
    have := size_subL (θ := m) (l := l) hv
    rw [Ty.sub, Ty.size]; omega

noncomputable def flag (m : Nat → Ty) (W : List Ty) : Nat := if ∃ w ∈ W, w.sub m = m 0 then 2 else 1
theorem flag_le (m : Nat → Ty) (W : List Ty) : 1 ≤ flag m W ∧ flag m W ≤ 2 := by unfold flag; split <;> omega

theorem chain (m : Nat → Ty) (B0 : Nat) (hB0 : 2 ≤ B0) : ∀ (n : Nat) (W : List Ty), W.length = n → (∀ w ∈ W, isApp w ∧ Ar2 w) → W.Pairwise (fun a b => a.sub m ≠ b.sub m) →
    (∀ w ∈ W, ∀ v ∈ w.vars, m v = m 0 ∨ (m v).size ≤ 1 ∨ ∃ w' ∈ W, w'.sub m = m v) →
    (∀ w ∈ W, (m 0).size < (w.sub m).size → (4 ≤ B0 ∧ (m 0).size ≤ 1) ∨ ∃ w' ∈ W, w'.sub m = m 0) →
    ∃ B, B0 ≤ B ∧ (∀ w ∈ W, (w.sub m).size + 1 ≤ B ∧ (w.sub m = m 0 → 2 * ((w.sub m).size + 1) ≤ B)) ∧ 2 ^ n * B ≤ B0 * PW m W * flag m W
  | 0, W, hn, _, _, _, _ => by
    obtain rfl := List.eq_nil_of_length_eq_zero hn
    refine ⟨B0, Nat.le_refl _, fun w hw => (by cases hw), ?_⟩
    have : flag m [] = 1 := by simp [flag]
    rw [this, PW]; omega
  | n + 1, W, hn, hW, hd, hc, hτ => by
    obtain ⟨l, T, k, rfl, hmax⟩ := max_mid (fun w => (w.sub m).size) W (by intro e; subst e; simp at hn)
    have hsl : (l ++ k).Sublist (l ++ T :: k) := List.Sublist.append_left (List.sublist_cons_self T k) l
    have hmem : ∀ w, w ∈ l ++ T :: k ↔ w = T ∨ w ∈ l ++ k := fun w => by simp only [List.mem_append, List.mem_cons]; constructor <;> (intro h; rcases h with h | h | h <;> simp [h])
    have hdT : ∀ w ∈ l ++ k, w.sub m ≠ T.sub m := fun w hw e => by
      rw [List.pairwise_append] at hd
      obtain ⟨_, h2, h3⟩ := hd
      rcases List.mem_append.1 hw with h | h
      · exact h3 w h T (by simp) e
      · exact (List.pairwise_cons.1 h2).1 w h e.symm
    have hTa := hW T (by simp)
    have hlen : (l ++ k).length = n := by simp at hn ⊢; omega
    obtain ⟨B, b1, b2, b3⟩ := chain m B0 hB0 n (l ++ k) hlen (fun w hw => hW w (hsl.subset hw)) (hd.sublist hsl) (fun w hw v hv => by
        rcases hc w (hsl.subset hw) v hv with h | h | ⟨w', h1, h2⟩
        · exact .inl h
        · exact .inr (.inl h)
        · rcases (hmem w').1 h1 with rfl | h3
          · exfalso
            have h4 := var_size m (hW w (hsl.subset hw)).1 hv
            have h5 : (w.sub m).size ≤ (w'.sub m).size := hmax w (hsl.subset hw)
            rw [← h2] at h4
            omega
          · exact .inr (.inr ⟨w', h3, h2⟩)) (fun w hw hlt => by
        rcases hτ w (hsl.subset hw) hlt with h | ⟨w', h1, h2⟩
        · exact .inl h
        · rcases (hmem w').1 h1 with rfl | h3
          · exfalso
            have h5 : (w.sub m).size ≤ (w'.sub m).size := hmax w (hsl.subset hw)
            rw [h2] at h5
            omega
          · exact .inr ⟨w', h3, h2⟩)
    obtain ⟨f, a, rfl⟩ : ∃ f a, T = .app f a := by
      cases T with
      | var v => exact hTa.1.elim
      | app f a => exact ⟨f, a, rfl⟩
    have hphi := phi m B (by omega) _ f a (Nat.le_refl _) hTa.2 (fun v hv hne => by
        rcases hc _ (by simp) v hv with h | h | ⟨w', h1, h2⟩
        · exact absurd h hne
        · omega
        · rcases (hmem w').1 h1 with rfl | h3
          · have := var_size m hTa.1 hv
            rw [← h2] at this; omega
          · have := (b2 w' h3).1
            rw [h2] at this; exact this) (fun hlt => by
        rcases hτ _ (by simp) hlt with h | ⟨w', h1, h2⟩
        · omega
        · rcases (hmem w').1 h1 with rfl | h3
          · rw [h2] at hlt; omega
          · have := (b2 w' h3).2 h2
            rw [h2] at this; exact this)
    rw [PW_mid]
    generalize hu : ((Ty.app f a).sub m).size + 1 = u at hphi
    generalize hP : PW m (l ++ k) = P at b3
    generalize hK : K m (.app f a) = kk at hphi
    generalize hp : 2 ^ n = p at b3
    have e2 : 2 ^ (n + 1) = 2 * p := by rw [Nat.pow_succ, hp, Nat.mul_comm]
    rw [e2]
    have h5 : p * ((kk + 2) * B) ≤ (kk + 2) * (B0 * P * flag m (l ++ k)) := by rw [Nat.mul_left_comm]; exact Nat.mul_le_mul_left _ b3
    have h6 : p * (2 * u) ≤ (kk + 2) * (B0 * P * flag m (l ++ k)) := Nat.le_trans (Nat.mul_le_mul_left _ hphi) h5
    by_cases hT0 : (Ty.app f a).sub m = m 0
    · have f1 : flag m (l ++ k) = 1 := by
        unfold flag
        rw [if_neg]
        rintro ⟨w, h1, h2⟩
        exact hdT w h1 (h2.trans hT0.symm)
      have f2 : flag m (l ++ .app f a :: k) = 2 := by
        unfold flag
        rw [if_pos ⟨_, by simp, hT0⟩]
      rw [f1] at b3 h6
      rw [f2]
      refine ⟨max B (2 * u), by omega, fun w hw => ?_, ?_⟩
      · rcases (hmem w).1 hw with rfl | h
        · rw [hu]; exact ⟨by omega, fun _ => by omega⟩
        · have := b2 w h
          exact ⟨by omega, fun h => by have := this.2 h; omega⟩
      · have e3 : B0 * ((2 + kk) * P) * 2 = 2 * ((kk + 2) * (B0 * P * 1)) := by
          rw [Nat.mul_one, Nat.mul_comm (B0 * ((2 + kk) * P)) 2, Nat.mul_left_comm B0, Nat.add_comm 2 kk]
        rw [e3]
        have e4 : 2 * p * max B (2 * u) = 2 * (p * max B (2 * u)) := by rw [Nat.mul_assoc]
        rw [e4]
        refine Nat.mul_le_mul_left _ ?_
        rcases Nat.le_total B (2 * u) with h | h
        · rw [Nat.max_eq_right h]; exact h6
        · rw [Nat.max_eq_left h]
          refine Nat.le_trans b3 ?_
          have : 1 * (B0 * P * 1) ≤ (kk + 2) * (B0 * P * 1) := Nat.mul_le_mul_right _ (by omega)
          omega
    · have f1 : flag m (l ++ .app f a :: k) = flag m (l ++ k) := by
        unfold flag
        congr 1
        refine propext ⟨?_, ?_⟩
        · rintro ⟨w, h1, h2⟩
          rcases (hmem w).1 h1 with rfl | h
          · exact absurd h2 hT0
          · exact ⟨w, h, h2⟩
        · rintro ⟨w, h1, h2⟩
          exact ⟨w, hsl.subset h1, h2⟩
      rw [f1]
      refine ⟨max B u, by omega, fun w hw => ?_, ?_⟩
      · rcases (hmem w).1 hw with rfl | h
        · rw [hu]; exact ⟨by omega, fun h => absurd h hT0⟩
        · have := b2 w h
          exact ⟨by omega, fun h => by have := this.2 h; omega⟩
      · have e3 : B0 * ((2 + kk) * P) * flag m (l ++ k) = (kk + 2) * (B0 * P * flag m (l ++ k)) := by
          rw [Nat.mul_left_comm B0, Nat.add_comm 2 kk, Nat.mul_assoc]
        rw [e3]
        rcases Nat.le_total B u with h | h
        · rw [Nat.max_eq_right h]
          have e4 : 2 * p * u = p * (2 * u) := by rw [Nat.mul_comm 2 p, Nat.mul_assoc]
          rw [e4]; exact h6
        · rw [Nat.max_eq_left h]
          have e4 : 2 * p * B = 2 * (p * B) := by rw [Nat.mul_assoc]
          rw [e4]
          refine Nat.le_trans (Nat.mul_le_mul_left 2 b3) ?_
          exact Nat.mul_le_mul_right _ (by omega)

def bestOf (f : Nat → Nat) : Nat → Nat
  | 0 => f 0
  | k + 1 => max (bestOf f k) (f (k + 1))
theorem bestOf_le (f : Nat → Nat) : ∀ {s k : Nat}, k ≤ s → f k ≤ bestOf f s
  | 0, k, h => by obtain rfl : k = 0 := by omega
                  exact Nat.le_refl _
  | s + 1, k, h => by
    rw [bestOf]
    by_cases e : k = s + 1
    · subst e; omega
    · have := bestOf_le f (s := s) (k := k) (by omega); omega
def best : Nat → Nat → Nat
  | 0, _ => 1
  | n + 1, s => bestOf (fun k => (2 + k) * best n (s - k)) s
theorem PW_best (m : Nat → Ty) : ∀ (W : List Ty) (s : Nat), KS m W ≤ s → PW m W ≤ best W.length s
  | [], s, _ => Nat.le_refl _
  | w :: W, s, h => by
    have h1 : KS m (w :: W) = K m w + KS m W := by simp [KS]
    have h2 := PW_best m W (s - K m w) (by omega)
    rw [PW, List.length_cons, best]
    exact Nat.le_trans (Nat.mul_le_mul_left _ h2) (bestOf_le (fun k => (2 + k) * best W.length (s - k)) (by omega))
theorem num1 : ∀ n, n < 6 → ∀ k, k < 9 → 2 * (k + 2) * best n (16 - 2 * k) < 502 * 2 ^ n := by decide +kernel
theorem num2 : ∀ n, n < 7 → ∀ k, k < 8 → 2 * (k + 2) * best n (15 - 2 * k) < 502 * 2 ^ n := by decide +kernel

theorem pick (m : Nat → Ty) : ∀ D : List Nat, ∃ vs : List Nat, vs.Pairwise (fun a b => m a ≠ m b) ∧ (∀ v ∈ vs, v ∈ D ∧ 2 ≤ (m v).size) ∧ ∀ v ∈ D, 2 ≤ (m v).size → ∃ v' ∈ vs, m v' = m v
  | [] => ⟨[], by simp, by simp, by simp⟩
  | v :: D => by
    obtain ⟨vs, h1, h2, h3⟩ := pick m D
    by_cases h : 2 ≤ (m v).size ∧ ∀ v' ∈ vs, m v' ≠ m v
    · refine ⟨v :: vs, List.pairwise_cons.2 ⟨fun v' hv' e => h.2 v' hv' e.symm, h1⟩, fun w hw => ?_, fun w hw hs => ?_⟩
      · rcases List.mem_cons.1 hw with rfl | hw
        · exact ⟨by simp, h.1⟩
        · exact ⟨by simp [(h2 w hw).1], (h2 w hw).2⟩
      · rcases List.mem_cons.1 hw with rfl | hw
        · exact ⟨w, by simp, rfl⟩
        · obtain ⟨v', h4, h5⟩ := h3 w hw hs
          exact ⟨v', by simp [h4], h5⟩
    · refine ⟨vs, h1, fun w hw => ⟨by simp [(h2 w hw).1], (h2 w hw).2⟩, fun w hw hs => ?_⟩
      rcases List.mem_cons.1 hw with rfl | hw
      · apply Classical.byContradiction
        intro hc
        exact h ⟨hs, fun v' hv' e => hc ⟨v', hv', e⟩⟩
      · exact h3 w hw hs

theorem app_of_size {t : Ty} (h : 2 ≤ t.size) : isApp t := by
  cases t with
  | var v => rw [Ty.size] at h; omega
  | app f l => trivial

theorem bound (m : Nat → Ty) (x y : Ty) (hx : isApp x) (hy : isApp y) (ax : Ar2 x) (ay : Ar2 y) (he : x.sub m = y.sub m) (cx : cost x ≤ 9) (cy : cost y ≤ 9) (vx : ∀ v ∈ x.vars, v < 6) (vy : ∀ v ∈ y.vars, v < 6)
    (hval : ∀ v ∈ x.vars ++ y.vars, 2 ≤ (m v).size → ∃ t ∈ [x, y], ∃ s, Sub s t ∧ isApp s ∧ s.sub m = m v) (hdom : ∀ v, v ∉ x.vars ++ y.vars → m v = .var v) : (x.sub m).size ≤ 500 := by
  obtain ⟨vs, p1, p2, p3⟩ := pick m (x.vars ++ y.vars)
  have hlt6 : ∀ v ∈ x.vars ++ y.vars, v < 6 := fun v hv => by
    rcases List.mem_append.1 hv with h | h
    · exact vx v h
    · exact vy v h
  have hroot : ∀ v ∈ x.vars ++ y.vars, (m v).size < (x.sub m).size := fun v hv => by
    rcases List.mem_append.1 hv with h | h
    · exact var_size m hx h
    · rw [he]; exact var_size m hy h
  obtain ⟨G, Ts, g1, g2, g3, g4, g5, g6⟩ := forest m (x.vars ++ y.vars) vs [x, y] p1 (fun t ht => by
      simp at ht
      rcases ht with rfl | rfl
      · exact ⟨ax, fun w hw => by simp [hw]⟩
      · exact ⟨ay, fun w hw => by simp [hw]⟩) (fun v hv => ⟨(p2 v hv).1, hval v (p2 v hv).1 (p2 v hv).2⟩)
  obtain ⟨x', e1, e2, e3⟩ := g4 0 x rfl
  obtain ⟨y', e4, e5, e6⟩ := g4 1 y rfl
  have hne : ∀ v ∈ vs, m v ≠ x.sub m := fun v hv e => by
    have := hroot v (p2 v hv).1
    rw [e] at this; omega
  have hx' := e3 hx hne
  have hy' := e6 hy (fun v hv => by rw [← he]; exact hne v hv)
  have hGe : G = [x', y'] := by
    match G, g1, e1, e4 with
    | [a, b], _, e1, e4 => simp at e1 e4; rw [e1, e4]
  subst hGe
  have hTs : ∀ T ∈ Ts, ∃ v ∈ vs, T.sub m = m v ∧ isApp T := fun T hT => by
    obtain ⟨i, hi⟩ := List.mem_iff_getElem?.1 hT
    have hil := (List.getElem?_eq_some_iff.1 hi).1
    obtain ⟨v, hv⟩ : ∃ v, vs[i]? = some v := ⟨vs[i]'(by omega), by simp⟩
    obtain ⟨T2, k1, k2, k3⟩ := g5 i v hv
    rw [hi] at k1
    injection k1 with k1; subst k1
    exact ⟨v, List.mem_of_getElem? hv, k2, k3⟩
  have hcov : ∀ v ∈ x.vars ++ y.vars, 2 ≤ (m v).size → ∃ T ∈ Ts, T.sub m = m v := fun v hv h2 => by
    obtain ⟨v', h3, h4⟩ := p3 v hv h2
    obtain ⟨i, hi⟩ := List.mem_iff_getElem?.1 h3
    obtain ⟨T, k1, k2, k3⟩ := g5 i v' hi
    exact ⟨T, List.mem_of_getElem? k1, k2.trans h4⟩
  have hmemT : ∀ T ∈ Ts, Ar2 T ∧ ∀ w ∈ T.vars, w ∈ x.vars ++ y.vars := fun T hT => g6 T (by simp [hT])
  have hdis : Ts.Pairwise (fun a b => a.sub m ≠ b.sub m) := by
    rw [List.pairwise_iff_getElem]
    intro i j hi hj hij
    have hvi : vs[i]? = some (vs[i]'(by omega)) := by simp
    have hvj : vs[j]? = some (vs[j]'(by omega)) := by simp
    obtain ⟨T, k1, k2, _⟩ := g5 i _ hvi
    obtain ⟨T', k3, k4, _⟩ := g5 j _ hvj
    have q1 := (List.getElem?_eq_some_iff.1 k1).2
    have q2 := (List.getElem?_eq_some_iff.1 k3).2
    rw [q1, q2, k2, k4]
    exact (List.pairwise_iff_getElem.1 p1) i j (by omega) (by omega) hij
  have hnd : vs.Nodup := List.Pairwise.imp (fun {a b} h e => h (by rw [e])) p1
  have hv6 : vs.length ≤ 6 := Ax.nodup_le 6 vs hnd (fun v hv => hlt6 v (p2 v hv).1)
  have clos : ∀ w ∈ Ts, ∀ v ∈ w.vars, m v = m 0 ∨ (m v).size ≤ 1 ∨ ∃ w' ∈ Ts, w'.sub m = m v := fun w hw v hv => by
    by_cases h : (m v).size ≤ 1
    · exact .inr (.inl h)
    · exact .inr (.inr (hcov v ((hmemT w hw).2 v hv) (by omega)))
  have big0 : 2 ≤ (m 0).size → 0 ∈ x.vars ++ y.vars := fun h => by
    apply Classical.byContradiction
    intro hc
    rw [hdom 0 hc, Ty.size] at h; omega
  have hKx : ∀ {t : Ty}, isApp t → cost t ≤ 9 → K m t ≤ 8 := fun {t} ht hc => by
    cases t with
    | var v => exact ht.elim
    | app f l => have := KL_cost m l; rw [K]; rw [cost] at hc; omega
  have kx := hKx hx cx
  have ky := hKx hy cy
  have hKS : KS m [x', y'] = K m x' + K m y' := by simp [KS]
  have hKS0 : KS m [x, y] = K m x + K m y := by simp [KS]
  rw [hKS, hKS0] at g3
  obtain ⟨B0, hB0⟩ : ∃ B0, B0 = if (m 0).size ≤ 1 then 4 else 2 := ⟨_, rfl⟩
  have hB2 : 2 ≤ B0 := by rw [hB0]; split <;> omega
  obtain ⟨B, b1, b2, b3⟩ := chain m B0 hB2 Ts.length Ts rfl (fun w hw => ⟨(hTs w hw).choose_spec.2.2, (hmemT w hw).1⟩) hdis clos (fun w hw hlt => by
    by_cases h : (m 0).size ≤ 1
    · exact .inl ⟨by rw [hB0, if_pos h]; omega, h⟩
    · exact .inr (hcov 0 (big0 (by omega)) (by omega)))
  -- the roots
  have root : ∀ t, isApp t → t.sub m = x.sub m → Ar2 t → (∀ w ∈ t.vars, w ∈ x.vars ++ y.vars) → 2 * ((x.sub m).size + 1) ≤ (K m t + 2) * B := by
    intro t ht hv ha hw
    cases t with
    | var v => exact ht.elim
    | app f l =>
      rw [← hv]
      refine phi m B (by omega) _ f l (Nat.le_refl _) ha (fun v hv2 hne2 => ?_) (fun hlt => ?_)
      · by_cases h : (m v).size ≤ 1
        · omega
        · obtain ⟨T, h1, h2⟩ := hcov v (hw v hv2) (by omega)
          have := (b2 T h1).1
          rw [h2] at this; exact this
      · by_cases h : (m 0).size ≤ 1
        · have : B0 = 4 := by rw [hB0, if_pos h]
          omega
        · obtain ⟨T, h1, h2⟩ := hcov 0 (big0 (by omega)) (by omega)
          have := (b2 T h1).2 h2
          rw [h2] at this; exact this
  have mx := g6 x' (by simp)
  have my := g6 y' (by simp)
  have rx := root x' hx' e2 mx.1 mx.2
  have ry := root y' hy' (e5.trans he.symm) my.1 my.2
  obtain ⟨k0, hk0, hk1, hk2⟩ : ∃ k0, 2 * ((x.sub m).size + 1) ≤ (k0 + 2) * B ∧ k0 ≤ K m x' ∧ k0 ≤ K m y' := by
    by_cases h : K m x' ≤ K m y'
    · exact ⟨_, rx, Nat.le_refl _, h⟩
    · exact ⟨_, ry, by omega, Nat.le_refl _⟩
  have hfl : B0 * PW m Ts * flag m Ts ≤ 4 * PW m Ts := by
    by_cases h : (m 0).size ≤ 1
    · have f1 : flag m Ts = 1 := by
        unfold flag
        rw [if_neg]
        rintro ⟨w, h1, h2⟩
        obtain ⟨v, h3, h4, _⟩ := hTs w h1
        have := (p2 v h3).2
        rw [← h4, h2] at this; omega
      rw [f1, hB0, if_pos h, Nat.mul_one]; exact Nat.le_refl _
    · have := (flag_le m Ts).2
      rw [hB0, if_neg h]
      have h5 := Nat.mul_le_mul_left (2 * PW m Ts) this
      omega
  have fin : 2 ^ Ts.length * ((x.sub m).size + 1) ≤ 2 * (k0 + 2) * PW m Ts := by
    have h1 : 2 ^ Ts.length * (2 * ((x.sub m).size + 1)) ≤ 2 ^ Ts.length * ((k0 + 2) * B) := Nat.mul_le_mul_left _ hk0
    have h2 : 2 ^ Ts.length * ((k0 + 2) * B) = (k0 + 2) * (2 ^ Ts.length * B) := by rw [Nat.mul_left_comm]
    have h3 : (k0 + 2) * (2 ^ Ts.length * B) ≤ (k0 + 2) * (4 * PW m Ts) := Nat.mul_le_mul_left _ (Nat.le_trans b3 hfl)
    have h4 : (k0 + 2) * (4 * PW m Ts) = 2 * (2 * (k0 + 2) * PW m Ts) := by
      have : 4 * PW m Ts = 2 * (2 * PW m Ts) := by omega
      rw [this, Nat.mul_left_comm, Nat.mul_left_comm (k0 + 2) 2, Nat.mul_assoc 2 (k0 + 2)]
    have h5 : 2 ^ Ts.length * (2 * ((x.sub m).size + 1)) = 2 * (2 ^ Ts.length * ((x.sub m).size + 1)) := by rw [Nat.mul_left_comm]
    omega
  by_cases h0 : (m 0).size ≤ 1
  · have hn : (0 :: vs).length ≤ 6 := Ax.nodup_le 6 (0 :: vs) (List.nodup_cons.2 ⟨fun hc => by have := (p2 0 hc).2; omega, hnd⟩) (fun v hv => by
      rcases List.mem_cons.1 hv with rfl | hv
      · omega
      · exact hlt6 v (p2 v hv).1)
    rw [List.length_cons] at hn
    have h1 := PW_best m Ts (16 - 2 * k0) (by omega)
    have h2 := num1 Ts.length (by omega) k0 (by omega)
    have h3 : 2 * (k0 + 2) * PW m Ts ≤ 2 * (k0 + 2) * best Ts.length (16 - 2 * k0) := Nat.mul_le_mul_left _ h1
    have h4 : 2 ^ Ts.length * ((x.sub m).size + 1) < 2 ^ Ts.length * 502 := by rw [Nat.mul_comm _ 502]; omega
    have := Nat.lt_of_mul_lt_mul_left h4
    omega
  · have hz := big0 (by omega)
    obtain ⟨t, ht, s, s1, s2, s3⟩ := hval 0 hz (by omega)
    have hx0 : x.sub m ≠ m 0 := fun e => by have := hroot 0 hz; rw [e] at this; omega
    have hsum : K m x + K m y ≤ 15 := by
      simp at ht
      rcases ht with rfl | rfl
      · have h1 := K_cost2 m _ t (Nat.le_refl _) ⟨s, s1, s2, s3⟩
        have h2 : ne0 m t = 1 := by rw [ne0, if_neg hx0]
        omega
      · have h1 := K_cost2 m _ t (Nat.le_refl _) ⟨s, s1, s2, s3⟩
        have h2 : ne0 m t = 1 := by rw [ne0, if_neg (by rw [← he]; exact hx0)]
        omega
    have h1 := PW_best m Ts (15 - 2 * k0) (by omega)
    have h2 := num2 Ts.length (by omega) k0 (by omega)
    have h3 : 2 * (k0 + 2) * PW m Ts ≤ 2 * (k0 + 2) * best Ts.length (15 - 2 * k0) := Nat.mul_le_mul_left _ h1
    have h4 : 2 ^ Ts.length * ((x.sub m).size + 1) < 2 ^ Ts.length * 502 := by rw [Nat.mul_comm _ 502]; omega
    have := Nat.lt_of_mul_lt_mul_left h4
    omega
end Go.UniB

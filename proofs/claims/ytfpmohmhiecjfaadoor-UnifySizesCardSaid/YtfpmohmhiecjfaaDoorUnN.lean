/- What makes two types one: the steps, as plain law. Conditions: none. -/
import Derived.Test.YtfpmohmhiecjfaaDoorUnA
set_option linter.unusedVariables false
set_option linter.unusedSimpArgs false
namespace Go.Uni

mutual
/-- Making two types one, step by step: what all variables come to then, or that it can't be; how many calls that takes. -/
inductive Un : (Nat → Ty) → Ty → Ty → Option (Nat → Ty) → Nat → Prop where
  | same (m : Nat → Ty) (a b : Ty) (n : Nat) (ha : a.sub m = .var n) (hb : b.sub m = .var n) : Un m a b (some m) 1
  | bindL (m : Nat → Ty) (a b : Ty) (n : Nat) (ha : a.sub m = .var n) (hb : b.sub m ≠ .var n) (ho : n ∉ (b.sub m).vars) : Un m a b (some (bind m n (b.sub m))) 1
  | occL (m : Nat → Ty) (a b : Ty) (n : Nat) (ha : a.sub m = .var n) (hb : b.sub m ≠ .var n) (ho : n ∈ (b.sub m).vars) : Un m a b none 1
  | bindR (m : Nat → Ty) (a b : Ty) (f : ByteArray) (l : List Ty) (n : Nat) (ha : a.sub m = .app f l) (hb : b.sub m = .var n) (ho : n ∉ (a.sub m).vars) : Un m a b (some (bind m n (a.sub m))) 1
  | occR (m : Nat → Ty) (a b : Ty) (f : ByteArray) (l : List Ty) (n : Nat) (ha : a.sub m = .app f l) (hb : b.sub m = .var n) (ho : n ∈ (a.sub m).vars) : Un m a b none 1
  | clash (m : Nat → Ty) (a b : Ty) (f g : ByteArray) (l k : List Ty) (ha : a.sub m = .app f l) (hb : b.sub m = .app g k) (hc : f ≠ g ∨ l.length ≠ k.length) : Un m a b none 1
  | app (m : Nat → Ty) (a b : Ty) (f : ByteArray) (l k : List Ty) (res : Option (Nat → Ty)) (c : Nat) (ha : a.sub m = .app f (l.map (Ty.sub m))) (hb : b.sub m = .app f (k.map (Ty.sub m))) (hl : l.length = k.length) (h : UnL m l k res c) : Un m a b res (c + 1)
inductive UnL : (Nat → Ty) → List Ty → List Ty → Option (Nat → Ty) → Nat → Prop where
  | nil (m : Nat → Ty) : UnL m [] [] (some m) 0
  | fail (m : Nat → Ty) (x y : Ty) (l k : List Ty) (c : Nat) (h : Un m x y none c) : UnL m (x :: l) (y :: k) none c
  | cons (m m1 : Nat → Ty) (x y : Ty) (l k : List Ty) (res : Option (Nat → Ty)) (c1 c2 : Nat) (h : Un m x y (some m1) c1) (h2 : UnL m1 l k res c2) : UnL m (x :: l) (y :: k) res (c1 + c2)
end

theorem Un.congr {m : Nat → Ty} {a b a' b' : Ty} {res : Option (Nat → Ty)} {c : Nat} (h : Un m a b res c) (ha' : a'.sub m = a.sub m) (hb' : b'.sub m = b.sub m) : Un m a' b' res c := by
  cases h with
  | same _ _ _ n ha hb => exact .same m _ _ n (ha'.trans ha) (hb'.trans hb)
  | bindL _ _ _ n ha hb ho => rw [← hb'] at hb ho ⊢; exact .bindL m _ _ n (ha'.trans ha) hb ho
  | occL _ _ _ n ha hb ho => rw [← hb'] at hb ho; exact .occL m _ _ n (ha'.trans ha) hb ho
  | bindR _ _ _ f l n ha hb ho => rw [← ha'] at ha ho ⊢; exact .bindR m _ _ f l n ha (hb'.trans hb) ho
  | occR _ _ _ f l n ha hb ho => rw [← ha'] at ha ho; exact .occR m _ _ f l n ha (hb'.trans hb) ho
  | clash _ _ _ f g l k ha hb hc => exact .clash m _ _ f g l k (ha'.trans ha) (hb'.trans hb) hc
  | app _ _ _ f l k _ c ha hb hl h => exact .app m _ _ f l k _ c (ha'.trans ha) (hb'.trans hb) hl h

/-- A substitution that tells what the map tells. -/
def Resp (m θ : Nat → Ty) : Prop := ∀ v, (m v).sub θ = θ v
theorem Resp.sub {m θ : Nat → Ty} (h : Resp m θ) (t : Ty) : (t.sub m).sub θ = t.sub θ := by
  rw [Ty.sub_sub]; exact Ty.sub_congr fun v _ => h v
theorem Resp.comp {m m1 m2 : Nat → Ty} (h : Resp m m1) (h2 : Resp m1 m2) : Resp m m2 := fun v => by
  rw [← h2.sub (m v), h v]; exact h2 v
theorem Resp.start (θ : Nat → Ty) : Resp Ty.var θ := fun v => rfl
theorem Sbs.resp {s : Nat → Option Ty} {m : Nat → Ty} {r : Nat → Nat} (h : Sbs s m r) : Resp m m := fun v => h.idem (.var v)
theorem Resp.bind {s : Nat → Option Ty} {m : Nat → Ty} {r : Nat → Nat} (h : Sbs s m r) (n : Nat) (u : Ty) : Resp m (Uni.bind m n u) := fun v => by
  rw [sub_bind, h.resp v]; rfl
theorem Resp.bound {m θ : Nat → Ty} (h : Resp m θ) {n : Nat} {u : Ty} (hu : θ n = u.sub θ) : Resp (Uni.bind m n u) θ := fun v => by
  rw [Uni.bind, Ty.put, Ty.sub_sub, ← h v]
  refine Ty.sub_congr fun w _ => ?_
  by_cases e : w = n
  · subst e; simp [one, hu]
  · simp [one, e, Ty.sub]

mutual
theorem size_sub {θ : Nat → Ty} {n : Nat} : ∀ {t : Ty}, n ∈ t.vars → (θ n).size ≤ (t.sub θ).size
  | .var v, h => by simp [Ty.vars] at h; subst h; exact Nat.le_refl _
  | .app f l, h => by rw [Ty.sub, Ty.size]; have := size_subL (θ := θ) (l := l) h; omega
theorem size_subL {θ : Nat → Ty} {n : Nat} : ∀ {l : List Ty}, n ∈ Ty.varsL l → (θ n).size ≤ Ty.sizeL (Ty.subL θ l)
  | [], h => by simp [Ty.varsL] at h
  | x :: l, h => by
    rw [Ty.varsL] at h
    rw [Ty.subL, Ty.sizeL]
    rcases List.mem_append.1 h with h | h
    · have := size_sub (θ := θ) h; omega
    · have := size_subL (θ := θ) h; omega
end
theorem occurs_not {θ : Nat → Ty} {n : Nat} {u : Ty} (hu : u ≠ .var n) (h : n ∈ u.vars) : θ n ≠ u.sub θ := by
  cases u with
  | var v => simp [Ty.vars] at h; subst h; exact absurd rfl hu
  | app f l =>
    intro e
    have h1 := size_subL (θ := θ) (l := l) h
    have h2 := congrArg Ty.size e
    rw [Ty.sub, Ty.size] at h2
    omega

mutual
theorem size_mono (θ : Nat → Ty) : ∀ t : Ty, t.size ≤ (t.sub θ).size
  | .var n => by rw [Ty.size]; cases Ty.sub θ (.var n) <;> rw [Ty.size] <;> omega
  | .app f l => by rw [Ty.sub, Ty.size, Ty.size]; have := size_monoL θ l; omega
theorem size_monoL (θ : Nat → Ty) : ∀ l : List Ty, Ty.sizeL l ≤ Ty.sizeL (Ty.subL θ l)
  | [] => by simp [Ty.subL]
  | x :: l => by rw [Ty.subL, Ty.sizeL, Ty.sizeL]; have := size_mono θ x; have := size_monoL θ l; omega
end

mutual
theorem size_sub_le {m : Nat → Ty} {C : Nat} (hC : 1 ≤ C) : ∀ {t : Ty}, (∀ w ∈ t.vars, (m w).size ≤ C) → (t.sub m).size ≤ t.size * C
  | .var n, h => by rw [Ty.sub, Ty.size, Nat.one_mul]; exact h n (by simp [Ty.vars])
  | .app f l, h => by
    rw [Ty.sub, Ty.size, Ty.size, Nat.add_mul, Nat.one_mul]
    have := size_subL_le hC (l := l) h
    omega
theorem size_subL_le {m : Nat → Ty} {C : Nat} (hC : 1 ≤ C) : ∀ {l : List Ty}, (∀ w ∈ Ty.varsL l, (m w).size ≤ C) → Ty.sizeL (Ty.subL m l) ≤ Ty.sizeL l * C
  | [], _ => by simp [Ty.subL, Ty.sizeL]
  | x :: l, h => by
    rw [Ty.subL, Ty.sizeL, Ty.sizeL, Nat.add_mul]
    have h1 := size_sub_le hC (t := x) (fun w hw => h w (by simp [Ty.varsL, hw]))
    have h2 := size_subL_le hC (l := l) (fun w hw => h w (by simp [Ty.varsL, hw]))
    omega
end

/-- What the map tells is of small types over these variables. -/
def Good (D : List Nat) (B : Nat) (s : Nat → Option Ty) : Prop := ∀ n t, s n = some t → n ∈ D ∧ t.size ≤ B ∧ ∀ v ∈ t.vars, v ∈ D
def TyIn (D : List Nat) (B : Nat) (t : Ty) : Prop := t.size ≤ B ∧ ∀ v ∈ t.vars, v ∈ D

theorem mem_size {x : Ty} : ∀ {l : List Ty}, x ∈ l → x.size ≤ Ty.sizeL l
  | y :: l, h => by
    rw [Ty.sizeL]
    rcases List.mem_cons.1 h with rfl | h
    · omega
    · have := mem_size h; omega
theorem TyIn.arg {D : List Nat} {B : Nat} {f : ByteArray} {l : List Ty} (h : TyIn D B (.app f l)) {x : Ty} (hx : x ∈ l) : TyIn D B x := by
  refine ⟨?_, fun v hv => h.2 v (Ty.mem_varsL.2 ⟨x, hx, hv⟩)⟩
  have := h.1; rw [Ty.size] at this
  have := mem_size hx; omega

theorem vars_in {D : List Nat} {B : Nat} {s : Nat → Option Ty} {m : Nat → Ty} {r : Nat → Nat} (h : Sbs s m r) (hg : Good D B s) : ∀ (k v : Nat), r v < k → v ∈ D → ∀ w ∈ (m v).vars, w ∈ D
  | 0, v, hk, _, _, _ => by omega
  | k + 1, v, hk, hv, w, hw => by
    cases hs : s v with
    | none => rw [h.un v hs] at hw; simp [Ty.vars] at hw; subst hw; exact hv
    | some t =>
      rw [h.bd v t hs] at hw
      obtain ⟨x, hx, hw⟩ := Ty.mem_vars_sub.1 hw
      exact vars_in h hg k x (by have := h.rank v t hs x hx; omega) ((hg v t hs).2.2 x hx) w hw
theorem sub_in {D : List Nat} {B : Nat} {s : Nat → Option Ty} {m : Nat → Ty} {r : Nat → Nat} (h : Sbs s m r) (hg : Good D B s) {t : Ty} (ht : TyIn D B t) : ∀ w ∈ (t.sub m).vars, w ∈ D := by
  intro w hw
  obtain ⟨x, hx, hw⟩ := Ty.mem_vars_sub.1 hw
  exact vars_in h hg (r x + 1) x (by omega) (ht.2 x hx) w hw
theorem look_app {D : List Nat} {B : Nat} {s : Nat → Option Ty} {m : Nat → Ty} {r : Nat → Nat} (h : Sbs s m r) (hg : Good D B s) {f : ByteArray} {l : List Ty} : ∀ (k : Nat) (t : Ty), (∀ v ∈ t.vars, r v < k) → TyIn D B t → t.sub m = .app f l →
    ∃ la : List Ty, l = la.map (Ty.sub m) ∧ ∀ x ∈ la, TyIn D B x
  | k, .app g la, _, ht, e => by
    rw [Ty.sub, Ty.subL_eq] at e
    injection e with _ e
    exact ⟨la, e.symm, fun x hx => ht.arg hx⟩
  | 0, .var v, hk, _, _ => by have := hk v (by simp [Ty.vars]); omega
  | k + 1, .var v, hk, ht, e => by
    cases hs : s v with
    | none => rw [Ty.sub, h.un v hs] at e; cases e
    | some t =>
      rw [Ty.sub, h.bd v t hs] at e
      exact look_app h hg k t (fun w hw => by have := h.rank v t hs w hw; have := hk v (by simp [Ty.vars]); omega) ⟨(hg v t hs).2.1, (hg v t hs).2.2⟩ e

def free (D : List Nat) (s : Nat → Option Ty) : Nat := D.countP fun v => (s v).isNone
theorem countP_le {p q : Nat → Bool} : ∀ {l : List Nat}, (∀ x, p x = true → q x = true) → l.countP p ≤ l.countP q
  | [], _ => by simp
  | x :: l, h => by
    have := countP_le (l := l) h
    have h1 := h x
    simp only [List.countP_cons]
    cases hp : p x <;> cases hq : q x <;> simp_all <;> omega
theorem countP_lt {p q : Nat → Bool} {n : Nat} : ∀ {l : List Nat}, (∀ x, p x = true → q x = true) → n ∈ l → p n = false → q n = true → l.countP p < l.countP q
  | x :: l, h, hm, hp, hq => by
    simp only [List.countP_cons]
    rcases List.mem_cons.1 hm with rfl | hm
    · have := countP_le (l := l) h
      simp [hp, hq]; omega
    · have := countP_lt (l := l) h hm hp hq
      have h1 := h x
      cases hp : p x <;> cases hq : q x <;> simp_all <;> omega

/-- What is so when two types are one, or can't be. -/
def Post (D : List Nat) (B : Nat) (s : Nat → Option Ty) (m : Nat → Ty) (A Bb : (Nat → Ty) → List Ty) (res : Option (Nat → Ty)) (c : Nat) : Prop :=
  match res with
  | none => ∀ θ, Resp m θ → A θ ≠ Bb θ
  | some m' => ∃ s' r', Sbs s' m' r' ∧ Good D B s' ∧ Resp m m' ∧ A m' = Bb m' ∧ c ≤ Ty.sizeL (A m') ∧ (∀ θ, Resp m θ → A θ = Bb θ → Resp m' θ) ∧ ((s' = s ∧ m' = m) ∨ free D s' < free D s)

def Tot (D : List Nat) (B k N : Nat) : Prop := ∀ s m r, Sbs s m r → Good D B s → free D s ≤ k → ∀ a b, TyIn D B a → TyIn D B b → (a.sub m).size ≤ N → ∃ res c, Un m a b res c ∧ Post D B s m (fun θ => [a.sub θ]) (fun θ => [b.sub θ]) res c
def TotL (D : List Nat) (B k N : Nat) : Prop := ∀ la lb, la.length = lb.length → ∀ s m r, Sbs s m r → Good D B s → free D s ≤ k → (∀ x ∈ la, TyIn D B x) → (∀ x ∈ lb, TyIn D B x) → (∀ x ∈ la, (x.sub m).size ≤ N) →
  ∃ res c, UnL m la lb res c ∧ Post D B s m (fun θ => la.map (Ty.sub θ)) (fun θ => lb.map (Ty.sub θ)) res c

theorem sizeL_app (l k : List Ty) : Ty.sizeL (l ++ k) = Ty.sizeL l + Ty.sizeL k := by
  induction l with
  | nil => simp [Ty.sizeL]
  | cons x l ih => simp [Ty.sizeL, ih]; omega

theorem totL {D : List Nat} {B : Nat} : ∀ (la : List Ty) (k N : Nat), (∀ k' N', k' < k → Tot D B k' N') → Tot D B k N → ∀ lb, la.length = lb.length → ∀ s m r, Sbs s m r → Good D B s → free D s ≤ k → (∀ x ∈ la, TyIn D B x) → (∀ x ∈ lb, TyIn D B x) → (∀ x ∈ la, (x.sub m).size ≤ N) →
    ∃ res c, UnL m la lb res c ∧ Post D B s m (fun θ => la.map (Ty.sub θ)) (fun θ => lb.map (Ty.sub θ)) res c
  | [], k, N, _, _, [], _, s, m, r, hs, hg, _, _, _, _ => ⟨some m, 0, .nil m, s, r, hs, hg, hs.resp, rfl, Nat.zero_le _, fun θ h _ => h, .inl ⟨rfl, rfl⟩⟩
  | x :: la, k, N, hk, hN, y :: lb, hl, s, m, r, hs, hg, hf, ha, hb, hz => by
    obtain ⟨res, c, h1, h2⟩ := hN s m r hs hg hf x y (ha x (by simp)) (hb y (by simp)) (hz x (by simp))
    cases res with
    | none =>
      refine ⟨none, c, .fail m x y la lb c h1, fun θ hθ e => h2 θ hθ ?_⟩
      simp only [List.map_cons, List.cons.injEq] at e ⊢
      exact ⟨e.1, trivial⟩
    | some m1 =>
      obtain ⟨s1, r1, p1, p2, p3, p4, p5, p6, p7⟩ := h2
      have rest : ∃ res c, UnL m1 la lb res c ∧ Post D B s1 m1 (fun θ => la.map (Ty.sub θ)) (fun θ => lb.map (Ty.sub θ)) res c := by
        rcases p7 with ⟨e1, e2⟩ | hlt
        · subst e1; subst e2
          exact totL la k N hk hN lb (by simpa using hl) s1 m1 r1 p1 p2 hf (fun z hz => ha z (by simp [hz])) (fun z hz => hb z (by simp [hz])) (fun z hz' => hz z (by simp [hz']))
        · refine totL la (free D s1) (Ty.sizeL (la.map (Ty.sub m1))) (fun k' N' h => hk k' N' (by omega)) (hk _ _ (by omega)) lb (by simpa using hl) s1 m1 r1 p1 p2 (Nat.le_refl _) (fun z hz => ha z (by simp [hz])) (fun z hz => hb z (by simp [hz])) (fun z hz' => ?_)
          exact mem_size (List.mem_map_of_mem hz')
      obtain ⟨res, c2, q1, q2⟩ := rest
      refine ⟨res, c + c2, .cons m m1 x y la lb res c c2 h1 q1, ?_⟩
      cases res with
      | none =>
        intro θ hθ e
        simp only [List.map_cons, List.cons.injEq] at e
        exact q2 θ (p6 θ hθ (by simp [e.1])) e.2
      | some m2 =>
        obtain ⟨s2, r2, t1, t2, t3, t4, t5, t6, t7⟩ := q2
        have p4' : x.sub m1 = y.sub m1 := by simpa using p4
        have ex : x.sub m2 = (x.sub m1).sub m2 := (t3.sub x).symm
        have ey : y.sub m2 = (y.sub m1).sub m2 := (t3.sub y).symm
        refine ⟨s2, r2, t1, t2, p3.comp t3, ?_, ?_, fun θ hθ e => ?_, ?_⟩
        · simp only [List.map_cons, List.cons.injEq]
          exact ⟨by rw [ex, ey, p4'], t4⟩
        · simp only [List.map_cons, Ty.sizeL] at t5 p5 ⊢
          have : (x.sub m1).size ≤ (x.sub m2).size := by
            rw [ex]
            exact size_mono m2 (x.sub m1)
          omega
        · simp only [List.map_cons, List.cons.injEq] at e
          exact t6 θ (p6 θ hθ (by simp [e.1])) e.2
        · rcases p7 with ⟨e1, e2⟩ | hlt
          · subst e1; subst e2
            exact t7
          · rcases t7 with ⟨e1, e2⟩ | hlt2
            · subst e1; exact .inr hlt
            · exact .inr (by omega)
theorem Good.bind {D : List Nat} {B : Nat} {s : Nat → Option Ty} (hg : Good D B s) {n : Nat} (hn : n ∈ D) {b : Ty} (hb : TyIn D B b) : Good D B (fun v => if v = n then some b else s v) := by
  intro v t hv
  by_cases e : v = n
  · simp [e] at hv; subst hv; subst e; exact ⟨hn, hb.1, hb.2⟩
  · simp [e] at hv; exact hg v t hv
theorem free_bind {D : List Nat} {s : Nat → Option Ty} {n : Nat} (hn : n ∈ D) (hs : s n = none) (b : Ty) : free D (fun v => if v = n then some b else s v) < free D s := by
  refine countP_lt (n := n) (fun x hx => ?_) hn (by simp) (by simp [hs])
  by_cases e : x = n
  · simp [e] at hx
  · simpa [e] using hx
theorem put_self (n : Nat) (u : Ty) : (Ty.var n).put n u = u := by simp [Ty.put, Ty.sub, one]

theorem tot_step {D : List Nat} {B k N : Nat} (h1 : ∀ k' N', k' < k → Tot D B k' N') (h2 : Tot D B k N) : Tot D B k (N + 1) := by
  intro s m r hs hg hf a b ha hb hz
  have hin : ∀ {t : Ty} {n : Nat}, TyIn D B t → t.sub m = .var n → n ∈ D ∧ s n = none := fun {t n} ht e => by
    have hv : n ∈ (t.sub m).vars := by rw [e]; simp [Ty.vars]
    exact ⟨sub_in hs hg ht n hv, hs.free_sub hv⟩
  cases ea : a.sub m with
  | var n =>
    obtain ⟨hnD, hns⟩ := hin ha ea
    by_cases hb1 : b.sub m = .var n
    · refine ⟨some m, 1, .same m a b n ea hb1, s, r, hs, hg, hs.resp, by simp only [ea, hb1], by simp [Ty.sizeL, ea, Ty.size], fun θ h _ => h, .inl ⟨rfl, rfl⟩⟩
    · by_cases ho : n ∈ (b.sub m).vars
      · refine ⟨none, 1, .occL m a b n ea hb1 ho, fun θ hθ e => ?_⟩
        have e' : a.sub θ = b.sub θ := by simpa using e
        rw [← hθ.sub a, ← hθ.sub b, ea] at e'
        exact occurs_not hb1 ho e'
      · obtain ⟨r', h'⟩ := hs.bind hns ho
        have hA : a.sub (Uni.bind m n (b.sub m)) = b.sub m := by rw [sub_bind, ea, put_self]
        have hB : b.sub (Uni.bind m n (b.sub m)) = b.sub m := by rw [sub_bind, Ty.put_none ho]
        refine ⟨_, 1, .bindL m a b n ea hb1 ho, _, r', h', hg.bind hnD hb, Resp.bind hs n _, by simp only [hA, hB], ?_, fun θ hθ e => ?_, .inr (free_bind hnD hns b)⟩
        · have := Ty.size.eq_def (b.sub m)
          simp only [Ty.sizeL, hA]
          cases b.sub m <;> simp [Ty.size] <;> omega
        · have e' : a.sub θ = b.sub θ := by simpa using e
          rw [← hθ.sub a, ← hθ.sub b, ea] at e'
          exact hθ.bound e'
  | app f l =>
    cases eb : b.sub m with
    | var n =>
      obtain ⟨hnD, hns⟩ := hin hb eb
      have hne : a.sub m ≠ .var n := by rw [ea]; intro e; cases e
      by_cases ho : n ∈ (a.sub m).vars
      · refine ⟨none, 1, .occR m a b f l n ea eb ho, fun θ hθ e => ?_⟩
        have e' : a.sub θ = b.sub θ := by simpa using e
        rw [← hθ.sub a, ← hθ.sub b, eb] at e'
        exact occurs_not hne ho e'.symm
      · obtain ⟨r', h'⟩ := hs.bind hns ho
        have hA : a.sub (Uni.bind m n (a.sub m)) = a.sub m := by rw [sub_bind, Ty.put_none ho]
        have hB : b.sub (Uni.bind m n (a.sub m)) = a.sub m := by rw [sub_bind, eb, put_self]
        refine ⟨_, 1, .bindR m a b f l n ea eb ho, _, r', h', hg.bind hnD ha, Resp.bind hs n _, by simp only [hA, hB], ?_, fun θ hθ e => ?_, .inr (free_bind hnD hns a)⟩
        · simp only [Ty.sizeL, hA]
          cases a.sub m <;> simp [Ty.size] <;> omega
        · have e' : a.sub θ = b.sub θ := by simpa using e
          rw [← hθ.sub a, ← hθ.sub b, eb] at e'
          exact hθ.bound e'.symm
    | app g k' =>
      by_cases hc : f ≠ g ∨ l.length ≠ k'.length
      · refine ⟨none, 1, .clash m a b f g l k' ea eb hc, fun θ hθ e => ?_⟩
        have e' : a.sub θ = b.sub θ := by simpa using e
        rw [← hθ.sub a, ← hθ.sub b, ea, eb, Ty.sub, Ty.sub, Ty.subL_eq, Ty.subL_eq] at e'
        injection e' with e1 e2
        have e3 := congrArg List.length e2
        simp at e3
        rcases hc with hc | hc
        · exact hc e1
        · exact hc e3
      · obtain ⟨K1, hK1⟩ := max_bound r a.vars
        obtain ⟨K2, hK2⟩ := max_bound r b.vars
        obtain ⟨la, rfl, hla⟩ := look_app hs hg K1 a hK1 ha ea
        obtain ⟨lb, rfl, hlb⟩ := look_app hs hg K2 b hK2 hb eb
        have hfg : f = g := Classical.byContradiction fun h => hc (.inl h)
        have hll : la.length = lb.length := Classical.byContradiction fun h => hc (.inr (by simpa using h))
        subst hfg
        obtain ⟨res, c, q1, q2⟩ := totL la k N h1 h2 lb hll s m r hs hg hf hla hlb (fun x hx => by
          have h3 := mem_size (List.mem_map_of_mem (f := Ty.sub m) hx)
          rw [ea, Ty.size] at hz
          omega)
        refine ⟨res, c + 1, .app m a b f la lb res c ea eb hll q1, ?_⟩
        have eA : ∀ θ, Resp m θ → a.sub θ = .app f (la.map (Ty.sub θ)) := fun θ hθ => by
          rw [← hθ.sub a, ea, Ty.sub, Ty.subL_eq, List.map_map]
          congr 1
          exact List.map_congr_left fun x _ => hθ.sub x
        have eB : ∀ θ, Resp m θ → b.sub θ = .app f (lb.map (Ty.sub θ)) := fun θ hθ => by
          rw [← hθ.sub b, eb, Ty.sub, Ty.subL_eq, List.map_map]
          congr 1
          exact List.map_congr_left fun x _ => hθ.sub x
        cases res with
        | none =>
          intro θ hθ e
          refine q2 θ hθ ?_
          simp only [List.cons.injEq, and_true, eA θ hθ, eB θ hθ] at e
          injection e
        | some m' =>
          obtain ⟨s', r', t1, t2, t3, t4, t5, t6, t7⟩ := q2
          refine ⟨s', r', t1, t2, t3, by simp only [eA m' t3, eB m' t3, t4], ?_, fun θ hθ e => t6 θ hθ ?_, t7⟩
          · simp only [Ty.sizeL, eA m' t3, Ty.size]
            have t5' : c ≤ Ty.sizeL (la.map (Ty.sub m')) := t5
            omega
          · simp only [List.cons.injEq, and_true, eA θ hθ, eB θ hθ] at e
            injection e

theorem tot (D : List Nat) (B : Nat) : ∀ (k N : Nat), Tot D B k N := by
  intro k
  induction k using Nat.strongRecOn with
  | ind k ih =>
    intro N
    induction N with
    | zero =>
      intro s m r hs hg hf a b ha hb hz
      exfalso
      cases h : a.sub m <;> rw [h, Ty.size] at hz <;> omega
    | succ N hN => exact tot_step (fun k' N' h => ih k' h N') hN

/-- What all variables come to is not too great. -/
theorem size_all {D : List Nat} {B : Nat} {s : Nat → Option Ty} {m : Nat → Ty} {r : Nat → Nat} (h : Sbs s m r) (hg : Good D B s) (hB : 1 ≤ B) (hD : D.Nodup) : ∀ v, (m v).size ≤ B ^ D.length := by
  have key : ∀ (k : Nat) (v : Nat), r v < k → (m v).size ≤ B ^ (D.countP fun w => (s w).isSome && decide (r w ≤ r v)) := by
    intro k
    induction k with
    | zero => intro v hv; omega
    | succ k ih =>
      intro v hv
      cases hs : s v with
      | none => rw [h.un v hs, Ty.size]; exact Nat.one_le_pow _ _ hB
      | some t =>
        rw [h.bd v t hs]
        obtain ⟨g1, g2, g3⟩ := hg v t hs
        have h1 : ∀ w ∈ t.vars, (m w).size ≤ B ^ ((D.countP fun w => (s w).isSome && decide (r w ≤ r v)) - 1) := fun w hw => by
          have hr := h.rank v t hs w hw
          refine Nat.le_trans (ih w (by omega)) (Nat.pow_le_pow_right hB ?_)
          have := countP_lt (p := fun z => (s z).isSome && decide (r z ≤ r w)) (q := fun z => (s z).isSome && decide (r z ≤ r v)) (n := v) (l := D) (fun x hx => by simp at hx ⊢; exact ⟨hx.1, by omega⟩) g1 (by simp; intro _; omega) (by simp [hs])
          omega
        have h2 := size_sub_le (m := m) (C := B ^ ((D.countP fun w => (s w).isSome && decide (r w ≤ r v)) - 1)) (Nat.one_le_pow _ _ hB) h1
        have h3 : 0 < D.countP fun w => (s w).isSome && decide (r w ≤ r v) := by
          rw [List.countP_pos_iff]; exact ⟨v, g1, by simp [hs]⟩
        refine Nat.le_trans h2 (Nat.le_trans (Nat.mul_le_mul_right _ g2) ?_)
        rw [← Nat.pow_succ']
        exact Nat.pow_le_pow_right hB (by omega)
  intro v
  exact Nat.le_trans (key (r v + 1) v (by omega)) (Nat.pow_le_pow_right hB List.countP_le_length)
end Go.Uni

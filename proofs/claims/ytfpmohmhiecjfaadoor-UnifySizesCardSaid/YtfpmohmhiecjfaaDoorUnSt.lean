/- What makes two types one: the steps, with any property of what is bound. Conditions: none. -/
import Derived.Test.YtfpmohmhiecjfaaDoorUnQ
set_option linter.unusedVariables false
set_option linter.unusedSimpArgs false
namespace Go.UniP
open Go.Uni hiding Good TyIn vars_in sub_in look_app Post Tot TotL totL tot_step tot
/-- What the map tells is of small types over these variables. -/
def Good (D : List Nat) (B : Ty → Prop) (s : Nat → Option Ty) : Prop := ∀ n t, s n = some t → n ∈ D ∧ B t ∧ ∀ v ∈ t.vars, v ∈ D
def TyIn (D : List Nat) (B : Ty → Prop) (t : Ty) : Prop := B t ∧ ∀ v ∈ t.vars, v ∈ D

def Clos (B : Ty → Prop) : Prop := ∀ f l, B (.app f l) → ∀ x ∈ l, B x
theorem TyIn.arg {D : List Nat} {B : Ty → Prop} (hB : Clos B) {f : ByteArray} {l : List Ty} (h : TyIn D B (.app f l)) {x : Ty} (hx : x ∈ l) : TyIn D B x :=
  ⟨hB f l h.1 x hx, fun v hv => h.2 v (Ty.mem_varsL.2 ⟨x, hx, hv⟩)⟩
theorem vars_in {D : List Nat} {B : Ty → Prop} {s : Nat → Option Ty} {m : Nat → Ty} {r : Nat → Nat} (h : Sbs s m r) (hg : Good D B s) : ∀ (k v : Nat), r v < k → v ∈ D → ∀ w ∈ (m v).vars, w ∈ D
  | 0, v, hk, _, _, _ => by omega
  | k + 1, v, hk, hv, w, hw => by
    cases hs : s v with
    | none => rw [h.un v hs] at hw; simp [Ty.vars] at hw; subst hw; exact hv
    | some t =>
      rw [h.bd v t hs] at hw
      obtain ⟨x, hx, hw⟩ := Ty.mem_vars_sub.1 hw
      exact vars_in h hg k x (by have := h.rank v t hs x hx; omega) ((hg v t hs).2.2 x hx) w hw
theorem sub_in {D : List Nat} {B : Ty → Prop} {s : Nat → Option Ty} {m : Nat → Ty} {r : Nat → Nat} (h : Sbs s m r) (hg : Good D B s) {t : Ty} (ht : TyIn D B t) : ∀ w ∈ (t.sub m).vars, w ∈ D := by
  intro w hw
  obtain ⟨x, hx, hw⟩ := Ty.mem_vars_sub.1 hw
  exact vars_in h hg (r x + 1) x (by omega) (ht.2 x hx) w hw
theorem look_app {D : List Nat} {B : Ty → Prop} (hB : Clos B) {s : Nat → Option Ty} {m : Nat → Ty} {r : Nat → Nat} (h : Sbs s m r) (hg : Good D B s) {f : ByteArray} {l : List Ty} : ∀ (k : Nat) (t : Ty), (∀ v ∈ t.vars, r v < k) → TyIn D B t → t.sub m = .app f l →
    ∃ la : List Ty, l = la.map (Ty.sub m) ∧ ∀ x ∈ la, TyIn D B x
  | k, .app g la, _, ht, e => by
    rw [Ty.sub, Ty.subL_eq] at e
    injection e with _ e
    exact ⟨la, e.symm, fun x hx => ht.arg hB hx⟩
  | 0, .var v, hk, _, _ => by have := hk v (by simp [Ty.vars]); omega
  | k + 1, .var v, hk, ht, e => by
    cases hs : s v with
    | none => rw [Ty.sub, h.un v hs] at e; cases e
    | some t =>
      rw [Ty.sub, h.bd v t hs] at e
      exact look_app hB h hg k t (fun w hw => by have := h.rank v t hs w hw; have := hk v (by simp [Ty.vars]); omega) ⟨(hg v t hs).2.1, (hg v t hs).2.2⟩ e

/-- What is so when two types are one, or can't be. -/
def Post (D : List Nat) (B : Ty → Prop) (s : Nat → Option Ty) (m : Nat → Ty) (A Bb : (Nat → Ty) → List Ty) (res : Option (Nat → Ty)) (c : Nat) : Prop :=
  match res with
  | none => ∀ θ, Resp m θ → A θ ≠ Bb θ
  | some m' => ∃ s' r', Sbs s' m' r' ∧ Good D B s' ∧ Resp m m' ∧ A m' = Bb m' ∧ c ≤ Ty.sizeL (A m') ∧ (∀ θ, Resp m θ → A θ = Bb θ → Resp m' θ) ∧ ((s' = s ∧ m' = m) ∨ free D s' < free D s)

def Tot (D : List Nat) (B : Ty → Prop) (k N : Nat) : Prop := ∀ s m r, Sbs s m r → Good D B s → free D s ≤ k → ∀ a b, TyIn D B a → TyIn D B b → (a.sub m).size ≤ N → ∃ res c, Un m a b res c ∧ Post D B s m (fun θ => [a.sub θ]) (fun θ => [b.sub θ]) res c
def TotL (D : List Nat) (B : Ty → Prop) (k N : Nat) : Prop := ∀ la lb, la.length = lb.length → ∀ s m r, Sbs s m r → Good D B s → free D s ≤ k → (∀ x ∈ la, TyIn D B x) → (∀ x ∈ lb, TyIn D B x) → (∀ x ∈ la, (x.sub m).size ≤ N) →
  ∃ res c, UnL m la lb res c ∧ Post D B s m (fun θ => la.map (Ty.sub θ)) (fun θ => lb.map (Ty.sub θ)) res c

theorem totL {D : List Nat} {B : Ty → Prop} : ∀ (la : List Ty) (k N : Nat), (∀ k' N', k' < k → Tot D B k' N') → Tot D B k N → ∀ lb, la.length = lb.length → ∀ s m r, Sbs s m r → Good D B s → free D s ≤ k → (∀ x ∈ la, TyIn D B x) → (∀ x ∈ lb, TyIn D B x) → (∀ x ∈ la, (x.sub m).size ≤ N) →
    ∃ res c, UnL m la lb res c ∧ Post D B s m (fun θ => la.map (Ty.sub θ)) (fun θ => lb.map (Ty.sub θ)) res c
  | [], k, N, _, _, [], _, s, m, r, hs, hg, _, _, _, _ => ⟨some m, 0, .nil m, s, r, hs, hg, hs.resp, rfl, Nat.zero_le _, fun θ h _ => h, .inl ⟨rfl, rfl⟩⟩
  | x :: la, k, N, hk, hN, y :: lb, hl, s, m, r, hs, hg, hf, ha, hb, hz => by
    obtain ⟨res, c, h1, h2⟩ := hN s m r hs hg hf x y (ha x (by simp)) (hb y (by simp)) (hz x (by simp))
    cases res with
    | none =>
      refine ⟨none, c, .fail m x y la lb c h1, fun θ hθ e => h2 θ hθ ?_⟩
      simp only [List.map_cons, List.cons.injEq] at e ⊢
      exact ⟨e.1, trivial⟩
    | some m1 =>
      obtain ⟨s1, r1, p1, p2, p3, p4, p5, p6, p7⟩ := h2
      have rest : ∃ res c, UnL m1 la lb res c ∧ Post D B s1 m1 (fun θ => la.map (Ty.sub θ)) (fun θ => lb.map (Ty.sub θ)) res c := by
        rcases p7 with ⟨e1, e2⟩ | hlt
        · subst e1; subst e2
          exact totL la k N hk hN lb (by simpa using hl) s1 m1 r1 p1 p2 hf (fun z hz => ha z (by simp [hz])) (fun z hz => hb z (by simp [hz])) (fun z hz' => hz z (by simp [hz']))
        · refine totL la (free D s1) (Ty.sizeL (la.map (Ty.sub m1))) (fun k' N' h => hk k' N' (by omega)) (hk _ _ (by omega)) lb (by simpa using hl) s1 m1 r1 p1 p2 (Nat.le_refl _) (fun z hz => ha z (by simp [hz])) (fun z hz => hb z (by simp [hz])) (fun z hz' => ?_)
          exact mem_size (List.mem_map_of_mem hz')
      obtain ⟨res, c2, q1, q2⟩ := rest
      refine ⟨res, c + c2, .cons m m1 x y la lb res c c2 h1 q1, ?_⟩
      cases res with
      | none =>
        intro θ hθ e
        simp only [List.map_cons, List.cons.injEq] at e
        exact q2 θ (p6 θ hθ (by simp [e.1])) e.2
      | some m2 =>
        obtain ⟨s2, r2, t1, t2, t3, t4, t5, t6, t7⟩ := q2
        have p4' : x.sub m1 = y.sub m1 := by simpa using p4
        have ex : x.sub m2 = (x.sub m1).sub m2 := (t3.sub x).symm
        have ey : y.sub m2 = (y.sub m1).sub m2 := (t3.sub y).symm
        refine ⟨s2, r2, t1, t2, p3.comp t3, ?_, ?_, fun θ hθ e => ?_, ?_⟩
        · simp only [List.map_cons, List.cons.injEq]
          exact ⟨by rw [ex, ey, p4'], t4⟩
        · simp only [List.map_cons, Ty.sizeL] at t5 p5 ⊢
          have : (x.sub m1).size ≤ (x.sub m2).size := by
            rw [ex]
            exact size_mono m2 (x.sub m1)
          omega
        · simp only [List.map_cons, List.cons.injEq] at e
          exact t6 θ (p6 θ hθ (by simp [e.1])) e.2
        · rcases p7 with ⟨e1, e2⟩ | hlt
          · subst e1; subst e2
            exact t7
          · rcases t7 with ⟨e1, e2⟩ | hlt2
            · subst e1; exact .inr hlt
            · exact .inr (by omega)
theorem Good.bind {D : List Nat} {B : Ty → Prop} {s : Nat → Option Ty} (hg : Good D B s) {n : Nat} (hn : n ∈ D) {b : Ty} (hb : TyIn D B b) : Good D B (fun v => if v = n then some b else s v) := by
  intro v t hv
  by_cases e : v = n
  · simp [e] at hv; subst hv; subst e; exact ⟨hn, hb.1, hb.2⟩
  · simp [e] at hv; exact hg v t hv
theorem tot_step {D : List Nat} {B : Ty → Prop} (hB : Clos B) {k N : Nat} (h1 : ∀ k' N', k' < k → Tot D B k' N') (h2 : Tot D B k N) : Tot D B k (N + 1) := by
  intro s m r hs hg hf a b ha hb hz
  have hin : ∀ {t : Ty} {n : Nat}, TyIn D B t → t.sub m = .var n → n ∈ D ∧ s n = none := fun {t n} ht e => by
    have hv : n ∈ (t.sub m).vars := by rw [e]; simp [Ty.vars]
    exact ⟨sub_in hs hg ht n hv, hs.free_sub hv⟩
  cases ea : a.sub m with
  | var n =>
    obtain ⟨hnD, hns⟩ := hin ha ea
    by_cases hb1 : b.sub m = .var n
    · refine ⟨some m, 1, .same m a b n ea hb1, s, r, hs, hg, hs.resp, by simp only [ea, hb1], by simp [Ty.sizeL, ea, Ty.size], fun θ h _ => h, .inl ⟨rfl, rfl⟩⟩
    · by_cases ho : n ∈ (b.sub m).vars
      · refine ⟨none, 1, .occL m a b n ea hb1 ho, fun θ hθ e => ?_⟩
        have e' : a.sub θ = b.sub θ := by simpa using e
        rw [← hθ.sub a, ← hθ.sub b, ea] at e'
        exact occurs_not hb1 ho e'
      · obtain ⟨r', h'⟩ := hs.bind hns ho
        have hA : a.sub (Uni.bind m n (b.sub m)) = b.sub m := by rw [sub_bind, ea, put_self]
        have hB : b.sub (Uni.bind m n (b.sub m)) = b.sub m := by rw [sub_bind, Ty.put_none ho]
        refine ⟨_, 1, .bindL m a b n ea hb1 ho, _, r', h', hg.bind hnD hb, Resp.bind hs n _, by simp only [hA, hB], ?_, fun θ hθ e => ?_, .inr (free_bind hnD hns b)⟩
        · have := Ty.size.eq_def (b.sub m)
          simp only [Ty.sizeL, hA]
          cases b.sub m <;> simp [Ty.size] <;> omega
        · have e' : a.sub θ = b.sub θ := by simpa using e
          rw [← hθ.sub a, ← hθ.sub b, ea] at e'
          exact hθ.bound e'
  | app f l =>
    cases eb : b.sub m with
    | var n =>
      obtain ⟨hnD, hns⟩ := hin hb eb
      have hne : a.sub m ≠ .var n := by rw [ea]; intro e; cases e
      by_cases ho : n ∈ (a.sub m).vars
      · refine ⟨none, 1, .occR m a b f l n ea eb ho, fun θ hθ e => ?_⟩
        have e' : a.sub θ = b.sub θ := by simpa using e
        rw [← hθ.sub a, ← hθ.sub b, eb] at e'
        exact occurs_not hne ho e'.symm
      · obtain ⟨r', h'⟩ := hs.bind hns ho
        have hA : a.sub (Uni.bind m n (a.sub m)) = a.sub m := by rw [sub_bind, Ty.put_none ho]
        have hB : b.sub (Uni.bind m n (a.sub m)) = a.sub m := by rw [sub_bind, eb, put_self]
        refine ⟨_, 1, .bindR m a b f l n ea eb ho, _, r', h', hg.bind hnD ha, Resp.bind hs n _, by simp only [hA, hB], ?_, fun θ hθ e => ?_, .inr (free_bind hnD hns a)⟩
        · simp only [Ty.sizeL, hA]
          cases a.sub m <;> simp [Ty.size] <;> omega
        · have e' : a.sub θ = b.sub θ := by simpa using e
          rw [← hθ.sub a, ← hθ.sub b, eb] at e'
          exact hθ.bound e'.symm
    | app g k' =>
      by_cases hc : f ≠ g ∨ l.length ≠ k'.length
      · refine ⟨none, 1, .clash m a b f g l k' ea eb hc, fun θ hθ e => ?_⟩
        have e' : a.sub θ = b.sub θ := by simpa using e
        rw [← hθ.sub a, ← hθ.sub b, ea, eb, Ty.sub, Ty.sub, Ty.subL_eq, Ty.subL_eq] at e'
        injection e' with e1 e2
        have e3 := congrArg List.length e2
        simp at e3
        rcases hc with hc | hc
        · exact hc e1
        · exact hc e3
      · obtain ⟨K1, hK1⟩ := max_bound r a.vars
        obtain ⟨K2, hK2⟩ := max_bound r b.vars
        obtain ⟨la, rfl, hla⟩ := look_app hB hs hg K1 a hK1 ha ea
        obtain ⟨lb, rfl, hlb⟩ := look_app hB hs hg K2 b hK2 hb eb
        have hfg : f = g := Classical.byContradiction fun h => hc (.inl h)
        have hll : la.length = lb.length := Classical.byContradiction fun h => hc (.inr (by simpa using h))
        subst hfg
        obtain ⟨res, c, q1, q2⟩ := totL la k N h1 h2 lb hll s m r hs hg hf hla hlb (fun x hx => by
          have h3 := mem_size (List.mem_map_of_mem (f := Ty.sub m) hx)
          rw [ea, Ty.size] at hz
          omega)
        refine ⟨res, c + 1, .app m a b f la lb res c ea eb hll q1, ?_⟩
        have eA : ∀ θ, Resp m θ → a.sub θ = .app f (la.map (Ty.sub θ)) := fun θ hθ => by
          rw [← hθ.sub a, ea, Ty.sub, Ty.subL_eq, List.map_map]
          congr 1
          exact List.map_congr_left fun x _ => hθ.sub x
        have eB : ∀ θ, Resp m θ → b.sub θ = .app f (lb.map (Ty.sub θ)) := fun θ hθ => by
          rw [← hθ.sub b, eb, Ty.sub, Ty.subL_eq, List.map_map]
          congr 1
          exact List.map_congr_left fun x _ => hθ.sub x
        cases res with
        | none =>
          intro θ hθ e
          refine q2 θ hθ ?_
          simp only [List.cons.injEq, and_true, eA θ hθ, eB θ hθ] at e
          injection e
        | some m' =>
          obtain ⟨s', r', t1, t2, t3, t4, t5, t6, t7⟩ := q2
          refine ⟨s', r', t1, t2, t3, by simp only [eA m' t3, eB m' t3, t4], ?_, fun θ hθ e => t6 θ hθ ?_, t7⟩
          · simp only [Ty.sizeL, eA m' t3, Ty.size]
            have t5' : c ≤ Ty.sizeL (la.map (Ty.sub m')) := t5
            omega
          · simp only [List.cons.injEq, and_true, eA θ hθ, eB θ hθ] at e
            injection e

theorem tot (D : List Nat) (B : Ty → Prop) (hB : Clos B) : ∀ (k N : Nat), Tot D B k N := by
  intro k
  induction k using Nat.strongRecOn with
  | ind k ih =>
    intro N
    induction N with
    | zero =>
      intro s m r hs hg hf a b ha hb hz
      exfalso
      cases h : a.sub m <;> rw [h, Ty.size] at hz <;> omega
    | succ N hN => exact tot_step hB (fun k' N' h => ih k' h N') hN

end Go.UniP

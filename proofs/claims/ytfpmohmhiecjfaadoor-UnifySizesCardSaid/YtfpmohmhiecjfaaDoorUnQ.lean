/- What makes two types one: what was bound stays; types that come to the same are made one alike. Conditions: none. -/
import Derived.Test.YtfpmohmhiecjfaaDoorUnN
import Derived.Test.YtfpmohmhiecjfaaDoorUnC
set_option linter.unusedVariables false
set_option linter.unusedSimpArgs false
namespace Go.Uni

def Idem (m : Nat → Ty) : Prop := ∀ v, (m v).sub m = m v
theorem Idem.sub {m : Nat → Ty} (h : Idem m) (t : Ty) : (t.sub m).sub m = t.sub m := by
  rw [Ty.sub_sub]; exact Ty.sub_congr fun v _ => h v
theorem Sbs.idm {s : Nat → Option Ty} {m : Nat → Ty} {r : Nat → Nat} (h : Sbs s m r) : Idem m := fun v => h.idem (.var v)
mutual
theorem sub_fix {m : Nat → Ty} : ∀ {t : Ty}, t.sub m = t → ∀ w ∈ t.vars, m w = .var w
  | .var n, h, w, hw => by simp [Ty.vars] at hw; subst hw; exact h
  | .app f l, h, w, hw => by
    rw [Ty.sub] at h
    injection h with _ h
    exact sub_fixL h w hw
theorem sub_fixL {m : Nat → Ty} : ∀ {l : List Ty}, Ty.subL m l = l → ∀ w ∈ Ty.varsL l, m w = .var w
  | [], _, w, hw => by simp [Ty.varsL] at hw
  | x :: l, h, w, hw => by
    rw [Ty.subL] at h
    injection h with h1 h2
    rw [Ty.varsL] at hw
    rcases List.mem_append.1 hw with hw | hw
    · exact sub_fix h1 w hw
    · exact sub_fixL h2 w hw
end
theorem sub_self {m : Nat → Ty} {t : Ty} (h : ∀ w ∈ t.vars, m w = .var w) : t.sub m = t := by
  have : t.sub m = t.sub Ty.var := Ty.sub_congr h
  rw [this, Ty.sub_var]
theorem Idem.var {m : Nat → Ty} (h : Idem m) {a : Ty} {n : Nat} (ha : a.sub m = .var n) : m n = .var n := by
  have := h.sub a
  rw [ha] at this
  exact this
theorem Idem.bind {m : Nat → Ty} (h : Idem m) {n : Nat} (hn : m n = .var n) {u : Ty} (hu : u.sub m = u) (ho : n ∉ u.vars) : Idem (Uni.bind m n u) ∧ Resp m (Uni.bind m n u) := by
  have h1 : ∀ v, ((m v).put n u).sub m = (m v).put n u := fun v => by
    refine sub_self fun w hw => ?_
    rcases mem_put.1 hw with ⟨h1, h2⟩ | ⟨h1, h2⟩
    · exact sub_fix (h v) w h1
    · exact sub_fix hu w h2
  refine ⟨fun v => ?_, fun v => ?_⟩
  · rw [sub_bind, Uni.bind, h1 v]
    refine Ty.put_none fun hc => ?_
    rcases mem_put.1 hc with ⟨_, h2⟩ | ⟨_, h2⟩
    · exact h2 rfl
    · exact ho h2
  · rw [sub_bind, h v]; rfl

mutual
theorem Un.resp : ∀ {m : Nat → Ty} {a b : Ty} {res : Option (Nat → Ty)} {c : Nat}, Un m a b res c → ∀ {m' : Nat → Ty}, res = some m' → Idem m → Idem m' ∧ Resp m m'
  | _, _, _, _, _, .same m a b n ha hb, m', e, h => by injection e with e; subst e; exact ⟨h, h⟩
  | _, _, _, _, _, .bindL m a b n ha hb ho, m', e, h => by injection e with e; subst e; exact h.bind (h.var ha) (h.sub b) ho
  | _, _, _, _, _, .occL m a b n ha hb ho, m', e, h => by cases e
  | _, _, _, _, _, .bindR m a b f l n ha hb ho, m', e, h => by injection e with e; subst e; exact h.bind (h.var hb) (h.sub a) ho
  | _, _, _, _, _, .occR m a b f l n ha hb ho, m', e, h => by cases e
  | _, _, _, _, _, .clash m a b f g l k ha hb hc, m', e, h => by cases e
  | _, _, _, _, _, .app m a b f l k res c ha hb hl hu, m', e, h => UnL.resp hu e h
theorem UnL.resp : ∀ {m : Nat → Ty} {a b : List Ty} {res : Option (Nat → Ty)} {c : Nat}, UnL m a b res c → ∀ {m' : Nat → Ty}, res = some m' → Idem m → Idem m' ∧ Resp m m'
  | _, _, _, _, _, .nil m, m', e, h => by injection e with e; subst e; exact ⟨h, h⟩
  | _, _, _, _, _, .fail m x y l k c hu, m', e, h => by cases e
  | _, _, _, _, _, .cons m m1 x y l k res c1 c2 hu hu2, m', e, h => by
    have h1 := Un.resp hu rfl h
    have h2 := UnL.resp hu2 e h1.1
    exact ⟨h2.1, h1.2.comp h2.2⟩
end

theorem map_sub_resp {m m1 : Nat → Ty} (h : Resp m m1) {l k : List Ty} (e : l.map (Ty.sub m) = k.map (Ty.sub m)) : l.map (Ty.sub m1) = k.map (Ty.sub m1) := by
  have h1 : ∀ l : List Ty, l.map (Ty.sub m1) = (l.map (Ty.sub m)).map (Ty.sub m1) := fun l => by
    rw [List.map_map]; exact List.map_congr_left fun x _ => (h.sub x).symm
  rw [h1 l, h1 k, e]

theorem UnL.congr : ∀ {m : Nat → Ty} {a b : List Ty} {res : Option (Nat → Ty)} {c : Nat}, UnL m a b res c → Idem m → ∀ {a' b' : List Ty}, a'.map (Ty.sub m) = a.map (Ty.sub m) → b'.map (Ty.sub m) = b.map (Ty.sub m) → UnL m a' b' res c
  | _, _, _, _, _, .nil m, _, a', b', ea, eb => by
    obtain rfl : a' = [] := List.map_eq_nil_iff.1 ea
    obtain rfl : b' = [] := List.map_eq_nil_iff.1 eb
    exact .nil m
  | _, _, _, _, _, .fail m x y l k c hu, _, a', b', ea, eb => by
    cases a' with
    | nil => cases ea
    | cons x' l' =>
      cases b' with
      | nil => cases eb
      | cons y' k' =>
        simp only [List.map_cons, List.cons.injEq] at ea eb
        exact .fail m x' y' l' k' c (hu.congr ea.1 eb.1)
  | _, _, _, _, _, .cons m m1 x y l k res c1 c2 hu hu2, h, a', b', ea, eb => by
    cases a' with
    | nil => cases ea
    | cons x' l' =>
      cases b' with
      | nil => cases eb
      | cons y' k' =>
        simp only [List.map_cons, List.cons.injEq] at ea eb
        have h1 := hu.resp rfl h
        exact .cons m m1 x' y' l' k' res c1 c2 (hu.congr ea.1 eb.1) (UnL.congr hu2 h1.1 (map_sub_resp h1.2 ea.2) (map_sub_resp h1.2 eb.2))
theorem UnL.len : ∀ {m : Nat → Ty} {a b : List Ty} {res : Option (Nat → Ty)} {c : Nat}, UnL m a b res c → a.length = b.length ∨ res = none
  | _, _, _, _, _, .nil m => .inl rfl
  | _, _, _, _, _, .fail m x y l k c hu => .inr rfl
  | _, _, _, _, _, .cons m m1 x y l k res c1 c2 hu hu2 => by
    rcases UnL.len hu2 with h | h
    · exact .inl (by simp [h])
    · exact .inr h
end Go.Uni

/- A list of pairs that tells what all variables come to. Conditions: none. -/
set_option linter.unusedVariables false
set_option linter.unusedSimpArgs false
namespace Go.Ax
open Go.Uni

def VB (t : Ty) : Prop := ∀ v ∈ t.vars, v < 1000
structure Rep (l : PL) (m : Nat → Ty) : Prop where
  val : ∀ p ∈ l, p.2 = m p.1
  un : ∀ v, (∀ p ∈ l, p.1 ≠ v) → m v = .var v
  key : ∀ p ∈ l, ∀ w, p.1 ∉ (m w).vars
  nd : (l.map (·.1)).Nodup
  lt : ∀ p ∈ l, p.1 < 1000
  vb : ∀ v, v < 1000 → VB (m v)

theorem nodup_le : ∀ (n : Nat) (l : List Nat), l.Nodup → (∀ x ∈ l, x < n) → l.length ≤ n
  | 0, l, _, h => by
    cases l with
    | nil => simp
    | cons x l => have := h x (by simp); omega
  | n + 1, l, hd, h => by
    by_cases hm : n ∈ l
    · have h1 := nodup_le n (l.erase n) (hd.erase n) (fun x hx => by
        have h2 := (hd.mem_erase_iff).1 hx
        have := h x h2.2
        omega)
      rw [List.length_erase_of_mem hm] at h1
      omega
    · have := nodup_le n l hd (fun x hx => by
        have := h x hx
        have : x ≠ n := fun e => hm (e ▸ hx)
        omega)
      omega
theorem Rep.len {l : PL} {m : Nat → Ty} (h : Rep l m) : l.length ≤ 1000 := by
  have := nodup_le 1000 (l.map (·.1)) h.nd (fun x hx => by
    obtain ⟨p, hp, rfl⟩ := List.mem_map.1 hx
    exact h.lt p hp)
  simpa using this
theorem Rep.start : Rep [] Ty.var := ⟨by simp, fun _ _ => rfl, by simp, by simp, by simp, fun v hv w hw => by simp [Ty.vars] at hw; omega⟩
theorem VB.sub {m : Nat → Ty} (h : ∀ v, v < 1000 → VB (m v)) {t : Ty} (ht : VB t) : VB (t.sub m) := fun v hv => by
  obtain ⟨w, h1, h2⟩ := Ty.mem_vars_sub.1 hv
  exact h w (ht w h1) v h2
theorem VB.arg {f : ByteArray} {l : List Ty} (h : VB (.app f l)) {x : Ty} (hx : x ∈ l) : VB x := fun v hv => h v (Ty.mem_varsL.2 ⟨x, hx, hv⟩)

def asg : PL → Nat → Ty
  | [], v => .var v
  | p :: l, v => if v = p.1 then p.2 else asg l v
theorem appl_asg : ∀ (l : PL) (t : Ty), (∀ p ∈ l, ∀ q ∈ l, q.1 ∉ p.2.vars) → appl l t = t.sub (asg l)
  | [], t, _ => by
    have : asg [] = Ty.var := rfl
    rw [this, Ty.sub_var]; rfl
  | p :: l, t, h => by
    have h1 : appl (p :: l) t = appl l (t.put p.1 p.2) := rfl
    rw [h1, appl_asg l _ (fun a ha b hb => h a (by simp [ha]) b (by simp [hb])), Ty.put, Ty.sub_sub]
    refine Ty.sub_congr fun v _ => ?_
    by_cases e : v = p.1
    · subst e
      simp only [one, if_true, asg]
      refine sub_self fun w hw => ?_
      have : ∀ (k : PL), (∀ q ∈ k, q.1 ≠ w) → asg k w = .var w := by
        intro k
        induction k with
        | nil => intro _; rfl
        | cons q k ih =>
          intro hq
          have h2 := hq q (by simp)
          rw [asg, if_neg (fun e => h2 e.symm)]
          exact ih fun q hq' => hq q (by simp [hq'])
      exact this l fun q hq e => h p (by simp) q (by simp [hq]) (e ▸ hw)
    · simp [one, e, asg, Ty.sub]
theorem Rep.asg {l : PL} {m : Nat → Ty} (h : Rep l m) : Ax.asg l = m := by
  funext v
  have : ∀ (k : PL), (∀ p ∈ k, p ∈ l) → (∀ p ∈ l, p.1 = v → p ∈ k) → Ax.asg k v = m v := by
    intro k
    induction k with
    | nil =>
      intro _ h2
      exact (h.un v fun p hp e => by have := h2 p hp e; simp at this).symm
    | cons p k ih =>
      intro h1 h2
      by_cases e : v = p.1
      · subst e
        rw [Ax.asg, if_pos rfl]
        exact h.val p (h1 p (by simp))
      · rw [Ax.asg, if_neg e]
        refine ih (fun q hq => h1 q (by simp [hq])) fun q hq eq => ?_
        rcases List.mem_cons.1 (h2 q hq eq) with rfl | h3
        · exact absurd eq.symm e
        · exact h3
  exact this l (fun _ h => h) (fun _ h _ => h)
theorem Rep.appl {l : PL} {m : Nat → Ty} (h : Rep l m) (t : Ty) : Ax.appl l t = t.sub m := by
  rw [appl_asg l t (fun p hp q hq => by rw [h.val p hp]; exact h.key q hq p.1), h.asg]

def putAll (l : PL) (n : Nat) (u : Ty) : PL := l.map fun p => (p.1, p.2.put n u)
theorem Rep.bind {l : PL} {m : Nat → Ty} (h : Rep l m) {n : Nat} (hn : m n = .var n) (hlt : n < 1000) {u : Ty} (hu : u.sub m = u) (hv : VB u) (ho : n ∉ u.vars) : Rep (putAll l n u ++ [(n, u)]) (bind m n u) := by
  have hnk : ∀ p ∈ l, p.1 ≠ n := fun p hp e => by
    have := h.key p hp n
    rw [hn, e] at this
    simp [Ty.vars] at this
  refine ⟨?_, ?_, ?_, ?_, ?_, ?_⟩
  · intro p hp
    rcases List.mem_append.1 hp with hp | hp
    · obtain ⟨q, hq, rfl⟩ := List.mem_map.1 hp
      simp only [Uni.bind]
      rw [h.val q hq]
    · simp at hp; subst hp
      simp only [Uni.bind, hn, put_self]
  · intro v hv
    have h1 : v ≠ n := fun e => hv (n, u) (by simp) e.symm
    rw [Uni.bind, h.un v fun p hp => hv (p.1, p.2.put n u) (List.mem_append_left _ (List.mem_map_of_mem (f := fun p : Nat × Ty => (p.1, p.2.put n u)) hp)), Ty.put, Ty.sub]
    simp [one, h1]
  · intro p hp w hw
    rw [Uni.bind, mem_put] at hw
    rcases List.mem_append.1 hp with hp | hp
    · obtain ⟨q, hq, rfl⟩ := List.mem_map.1 hp
      rcases hw with ⟨h1, _⟩ | ⟨_, h1⟩
      · exact h.key q hq w h1
      · have h2 := sub_fix hu _ h1
        have h3 := h.key q hq q.1
        rw [h2] at h3
        simp [Ty.vars] at h3
    · simp at hp; subst hp
      rcases hw with ⟨_, h1⟩ | ⟨_, h1⟩
      · exact h1 rfl
      · exact ho h1
  · rw [List.map_append, putAll, List.map_map]
    have : ((fun x : Nat × Ty => x.fst) ∘ fun p : Nat × Ty => (p.1, p.2.put n u)) = fun x => x.1 := rfl
    rw [this, List.nodup_append]
    refine ⟨h.nd, by simp, fun a ha b hb => ?_⟩
    simp at hb; subst hb
    obtain ⟨p, hp, rfl⟩ := List.mem_map.1 ha
    exact hnk p hp
  · intro p hp
    rcases List.mem_append.1 hp with hp | hp
    · obtain ⟨q, hq, rfl⟩ := List.mem_map.1 hp
      exact h.lt q hq
    · simp at hp; subst hp; exact hlt
  · intro v hv' w hw
    rw [Uni.bind, mem_put] at hw
    rcases hw with ⟨h1, _⟩ | ⟨_, h1⟩
    · exact h.vb v hv' w h1
    · exact hv w h1
end Go.Ax

/- What makes two types one: what was bound stays; types that come to the same are made one alike. Conditions: none. -/
import Derived.Test.YtfpmohmhiecjfaaDoorUnN
set_option linter.unusedVariables false
set_option linter.unusedSimpArgs false
namespace Go.Uni

def Idem (m : Nat → Ty) : Prop := ∀ v, (m v).sub m = m v
theorem Idem.sub {m : Nat → Ty} (h : Idem m) (t : Ty) : (t.sub m).sub m = t.sub m := by
  rw [Ty.sub_sub]; exact Ty.sub_congr fun v _ => h v
theorem Sbs.idm {s : Nat → Option Ty} {m : Nat → Ty} {r : Nat → Nat} (h : Sbs s m r) : Idem m := fun v => h.idem (.var v)
mutual
theorem sub_fix {m : Nat → Ty} : ∀ {t : Ty}, t.sub m = t → ∀ w ∈ t.vars, m w = .var w
  | .var n, h, w, hw => by simp [Ty.vars] at hw; subst hw; exact h
  | .app f l, h, w, hw => by
    rw [Ty.sub] at h
    injection h with _ h
    exact sub_fixL h w hw
theorem sub_fixL {m : Nat → Ty} : ∀ {l : List Ty}, Ty.subL m l = l → ∀ w ∈ Ty.varsL l, m w = .var w
  | [], _, w, hw => by simp [Ty.varsL] at hw
  | x :: l, h, w, hw => by
    rw [Ty.subL] at h
    injection h with h1 h2
    rw [Ty.varsL] at hw
    rcases List.mem_append.1 hw with hw | hw
    · exact sub_fix h1 w hw
    · exact sub_fixL h2 w hw
end
theorem sub_self {m : Nat → Ty} {t : Ty} (h : ∀ w ∈ t.vars, m w = .var w) : t.sub m = t := by
  have : t.sub m = t.sub Ty.var := Ty.sub_congr h
  rw [this, Ty.sub_var]
theorem Idem.var {m : Nat → Ty} (h : Idem m) {a : Ty} {n : Nat} (ha : a.sub m = .var n) : m n = .var n := by
  have := h.sub a
  rw [ha] at this
  exact this
theorem Idem.bind {m : Nat → Ty} (h : Idem m) {n : Nat} (hn : m n = .var n) {u : Ty} (hu : u.sub m = u) (ho : n ∉ u.vars) : Idem (Uni.bind m n u) ∧ Resp m (Uni.bind m n u) := by
  have h1 : ∀ v, ((m v).put n u).sub m = (m v).put n u := fun v => by
    refine sub_self fun w hw => ?_
    rcases mem_put.1 hw with ⟨h1, h2⟩ | ⟨h1, h2⟩
    · exact sub_fix (h v) w h1
    · exact sub_fix hu w h2
  refine ⟨fun v => ?_, fun v => ?_⟩
  · rw [sub_bind, Uni.bind, h1 v]
    refine Ty.put_none fun hc => ?_
    rcases mem_put.1 hc with ⟨_, h2⟩ | ⟨_, h2⟩
    · exact h2 rfl
    · exact ho h2
  · rw [sub_bind, h v]; rfl

mutual
theorem Un.resp : ∀ {m : Nat → Ty} {a b : Ty} {res : Option (Nat → Ty)} {c : Nat}, Un m a b res c → ∀ {m' : Nat → Ty}, res = some m' → Idem m → Idem m' ∧ Resp m m'
  | _, _, _, _, _, .same m a b n ha hb, m', e, h => by injection e with e; subst e; exact ⟨h, h⟩
  | _, _, _, _, _, .bindL m a b n ha hb ho, m', e, h => by injection e with e; subst e; exact h.bind (h.var ha) (h.sub b) ho
  | _, _, _, _, _, .occL m a b n ha hb ho, m', e, h => by cases e
  | _, _, _, _, _, .bindR m a b f l n ha hb ho, m', e, h => by injection e with e; subst e; exact h.bind (h.var hb) (h.sub a) ho
  | _, _, _, _, _, .occR m a b f l n ha hb ho, m', e, h => by cases e
  | _, _, _, _, _, .clash m a b f g l k ha hb hc, m', e, h => by cases e
  | _, _, _, _, _, .app m a b f l k res c ha hb hl hu, m', e, h => UnL.resp hu e h
theorem UnL.resp : ∀ {m : Nat → Ty} {a b : List Ty} {res : Option (Nat → Ty)} {c : Nat}, UnL m a b res c → ∀ {m' : Nat → Ty}, res = some m' → Idem m → Idem m' ∧ Resp m m'
  | _, _, _, _, _, .nil m, m', e, h => by injection e with e; subst e; exact ⟨h, h⟩
  | _, _, _, _, _, .fail m x y l k c hu, m', e, h => by cases e
  | _, _, _, _, _, .cons m m1 x y l k res c1 c2 hu hu2, m', e, h => by
    have h1 := Un.resp hu rfl h
    have h2 := UnL.resp hu2 e h1.1
    exact ⟨h2.1, h1.2.comp h2.2⟩
end

theorem map_sub_resp {m m1 : Nat → Ty} (h : Resp m m1) {l k : List Ty} (e : l.map (Ty.sub m) = k.map (Ty.sub m)) : l.map (Ty.sub m1) = k.map (Ty.sub m1) := by
  have h1 : ∀ l : List Ty, l.map (Ty.sub m1) = (l.map (Ty.sub m)).map (Ty.sub m1) := fun l => by
    rw [List.map_map]; exact List.map_congr_left fun x _ => (h.sub x).symm
  rw [h1 l, h1 k, e]

theorem UnL.congr : ∀ {m : Nat → Ty} {a b : List Ty} {res : Option (Nat → Ty)} {c : Nat}, UnL m a b res c → Idem m → ∀ {a' b' : List Ty}, a'.map (Ty.sub m) = a.map (Ty.sub m) → b'.map (Ty.sub m) = b.map (Ty.sub m) → UnL m a' b' res c
  | _, _, _, _, _, .nil m, _, a', b', ea, eb => by
    obtain rfl : a' = [] := List.map_eq_nil_iff.1 ea
    obtain rfl : b' = [] := List.map_eq_nil_iff.1 eb
    exact .nil m
  | _, _, _, _, _, .fail m x y l k c hu, _, a', b', ea, eb => by
    cases a' with
    | nil => cases ea
    | cons x' l' =>
      cases b' with
      | nil => cases eb
      | cons y' k' =>
        simp only [List.map_cons, List.cons.injEq] at ea eb
        exact .fail m x' y' l' k' c (hu.congr ea.1 eb.1)
  | _, _, _, _, _, .cons m m1 x y l k res c1 c2 hu hu2, h, a', b', ea, eb => by
    cases a' with
    | nil => cases ea
    | cons x' l' =>
      cases b' with
      | nil => cases eb
      | cons y' k' =>
        simp only [List.map_cons, List.cons.injEq] at ea eb
        have h1 := hu.resp rfl h
        exact .cons m m1 x' y' l' k' res c1 c2 (hu.congr ea.1 eb.1) (UnL.congr hu2 h1.1 (map_sub_resp h1.2 ea.2) (map_sub_resp h1.2 eb.2))
theorem UnL.len : ∀ {m : Nat → Ty} {a b : List Ty} {res : Option (Nat → Ty)} {c : Nat}, UnL m a b res c → a.length = b.length ∨ res = none
  | _, _, _, _, _, .nil m => .inl rfl
  | _, _, _, _, _, .fail m x y l k c hu => .inr rfl
  | _, _, _, _, _, .cons m m1 x y l k res c1 c2 hu hu2 => by
    rcases UnL.len hu2 with h | h
    · exact .inl (by simp [h])
    · exact .inr h
end Go.Uni

/- Other names of variables change nothing of what Canon is. Conditions: none. -/
import Derived.Test.YtfpmohmhiecjfaaDoorUnVp
import Derived.Test.YtfpmohmhiecjfaaDoorUnE
import Derived.Test.YtfpmohmhiecjfaaDoorUnQ
set_option linter.unusedVariables false
set_option linter.unusedSimpArgs false
namespace Go.Ax
open Go.Uni

def InjOn (ρ : Nat → Nat) (S : Nat → Prop) : Prop := ∀ v w, S v → S w → ρ v = ρ w → v = w
def rsub (ρ : Nat → Nat) : Nat → Ty := fun v => .var (ρ v)
theorem addV_ren {ρ : Nat → Nat} {S : Nat → Prop} (h : InjOn ρ S) {acc : List Nat} {v : Nat} (ha : ∀ w ∈ acc, S w) (hv : S v) : addV (acc.map ρ) (ρ v) = (addV acc v).map ρ := by
  unfold addV
  by_cases e : v ∈ acc
  · rw [if_pos e, if_pos (List.mem_map_of_mem e)]
  · have : ¬ ρ v ∈ acc.map ρ := fun hc => by
      obtain ⟨w, hw, he⟩ := List.mem_map.1 hc
      have := h w v (ha w hw) hv he
      subst this; exact e hw
    rw [if_neg e, if_neg this]; simp
mutual
theorem varsF_ren {ρ : Nat → Nat} {S : Nat → Prop} (h : InjOn ρ S) : ∀ {t : Ty} {acc : List Nat}, (∀ w ∈ acc, S w) → (∀ w ∈ t.vars, S w) → varsF (acc.map ρ) (t.sub (rsub ρ)) = (varsF acc t).map ρ
  | .var v, acc, ha, hv => by
    rw [Ty.sub, rsub, varsF, varsF]
    exact addV_ren h ha (hv v (by simp [Ty.vars]))
  | .app f l, acc, ha, hv => by
    rw [Ty.sub, varsF, varsF]
    exact varsFL_ren h ha hv
theorem varsFL_ren {ρ : Nat → Nat} {S : Nat → Prop} (h : InjOn ρ S) : ∀ {l : List Ty} {acc : List Nat}, (∀ w ∈ acc, S w) → (∀ w ∈ Ty.varsL l, S w) → varsFL (acc.map ρ) (Ty.subL (rsub ρ) l) = (varsFL acc l).map ρ
  | [], acc, ha, hv => by rw [Ty.subL, varsFL, varsFL]
  | x :: l, acc, ha, hv => by
    rw [Ty.subL, varsFL, varsFL, varsF_ren h ha (fun w hw => hv w (by simp [Ty.varsL, hw]))]
    refine varsFL_ren h (fun w hw => ?_) (fun w hw => hv w (by simp [Ty.varsL, hw]))
    rcases varsF_mem.1 hw with h1 | h1
    · exact ha w h1
    · exact hv w (by simp [Ty.varsL, h1])
end
theorem idxOf_ren {ρ : Nat → Nat} {S : Nat → Prop} (h : InjOn ρ S) : ∀ {l : List Nat} {v : Nat}, (∀ w ∈ l, S w) → S v → (l.map ρ).idxOf (ρ v) = l.idxOf v
  | [], v, _, _ => by simp
  | x :: l, v, hl, hv => by
    have ih := idxOf_ren h (l := l) (v := v) (fun w hw => hl w (by simp [hw])) hv
    rw [List.map_cons, List.idxOf_cons, List.idxOf_cons, ih]
    by_cases e : x = v
    · subst e; simp
    · have e2 : ¬ ρ x = ρ v := fun hc => e (h x v (hl x (by simp)) hv hc)
      have e3 : (x == v) = false := by simpa using e
      have e4 : (ρ x == ρ v) = false := by simpa using e2
      rw [e3, e4]
/-- The same type with other names of variables. -/
theorem canon_ren {ρ : Nat → Nat} {t : Ty} (h : InjOn ρ (fun v => v ∈ t.vars)) : canon (t.sub (rsub ρ)) = canon t := by
  have hv : varsF [] (t.sub (rsub ρ)) = (varsF [] t).map ρ := varsF_ren h (acc := []) (fun w hw => (by cases hw)) (fun w hw => hw)
  rw [canon, hv, Ty.sub_sub, canon]
  refine Ty.sub_congr fun v hv' => ?_
  rw [rsub, Ty.sub, ren, ren, idxOf_ren h (fun w hw => by
    rcases varsF_mem.1 hw with h1 | h1
    · cases h1
    · exact h1) hv']
theorem idx_inj {l : List Nat} : InjOn (fun v => l.idxOf v) (fun v => v ∈ l) := fun v w hv hw e => by
  have h1 := List.getElem_idxOf (List.idxOf_lt_length_of_mem hv)
  have h2 := List.getElem_idxOf (List.idxOf_lt_length_of_mem hw)
  have e' : l.idxOf v = l.idxOf w := e
  simp only [e'] at h1
  exact h1.symm.trans h2
theorem canon_inj (t : Ty) : InjOn (fun v => (varsF [] t).idxOf v) (fun v => v ∈ t.vars) := fun v w hv hw e =>
  idx_inj v w (varsF_mem.2 (.inr hv)) (varsF_mem.2 (.inr hw)) e
theorem canon_canon (t : Ty) : canon (canon t) = canon t := canon_ren (canon_inj t)
end Go.Ax

/- One step of making pairs of small types one, as plain law. Conditions: none. -/
set_option linter.unusedVariables false
set_option linter.unusedSimpArgs false
namespace Go.Ax
open Go.Uni

mutual
theorem Sm_of : ∀ {t : Ty}, SN t → VB t → Sm t
  | .var n, _, h => h n (by simp [Ty.vars])
  | .app f l, h, hv => by rw [SN] at h; rw [Sm]; exact ⟨h.1, SmL_of h.2 (fun v hv' => hv v hv')⟩
theorem SmL_of : ∀ {l : List Ty}, SNL l → (∀ v ∈ Ty.varsL l, v < 1000) → SmL l
  | [], _, _ => trivial
  | x :: l, h, hv => by
    rw [SNL] at h; rw [SmL]
    exact ⟨Sm_of h.1 (fun v hv' => hv v (by simp [Ty.varsL, hv'])), SmL_of h.2 (fun v hv' => hv v (by simp [Ty.varsL, hv']))⟩
end
mutual
theorem SN_of_sub {m : Nat → Ty} : ∀ {t : Ty}, SN (t.sub m) → SN t
  | .var n, _ => trivial
  | .app f l, h => by rw [Ty.sub, SN] at h; rw [SN]; exact ⟨h.1, SNL_of_sub h.2⟩
theorem SNL_of_sub {m : Nat → Ty} : ∀ {l : List Ty}, SNL (Ty.subL m l) → SNL l
  | [], _ => trivial
  | x :: l, h => by rw [Ty.subL, SNL] at h; rw [SNL]; exact ⟨SN_of_sub h.1, SNL_of_sub h.2⟩
end
theorem SN_args {m : Nat → Ty} {f : ByteArray} {l : List Ty} {a : Ty} (ha : a.sub m = .app f (l.map (Ty.sub m))) (h : SN (a.sub m)) : ∀ x ∈ l, SN x := by
  rw [ha, SN, SNL_iff] at h
  exact fun x hx => SN_of_sub (h.2 _ (List.mem_map_of_mem hx))
theorem SN_bind {m : Nat → Ty} (h : ∀ v, SN (m v)) (n : Nat) {u : Ty} (hu : SN u) : ∀ v, SN (bind m n u v) := fun v => by
  rw [Uni.bind, Ty.put]
  exact SN_sub (fun w => by unfold one; split; exact hu; trivial) (h v)
mutual
theorem Un.sn : ∀ {m : Nat → Ty} {a b : Ty} {res : Option (Nat → Ty)} {c : Nat}, Un m a b res c → ∀ {m' : Nat → Ty}, res = some m' → (∀ v, SN (m v)) → SN a → SN b → ∀ v, SN (m' v)
  | _, _, _, _, _, .same m a b n ha hb, m', e, h, _, _ => by injection e with e; subst e; exact h
  | _, _, _, _, _, .bindL m a b n ha hb ho, m', e, h, _, hb' => by injection e with e; subst e; exact SN_bind h n (SN_sub h hb')
  | _, _, _, _, _, .occL m a b n ha hb ho, m', e, h, _, _ => by cases e
  | _, _, _, _, _, .bindR m a b f l n ha hb ho, m', e, h, ha', _ => by injection e with e; subst e; exact SN_bind h n (SN_sub h ha')
  | _, _, _, _, _, .occR m a b f l n ha hb ho, m', e, h, _, _ => by cases e
  | _, _, _, _, _, .clash m a b f g l k ha hb hc, m', e, h, _, _ => by cases e
  | _, _, _, _, _, .app m a b f l k res c ha hb hl hu, m', e, h, ha', hb' => UnL.sn hu e h (SN_args ha (SN_sub h ha')) (SN_args hb (SN_sub h hb'))
theorem UnL.sn : ∀ {m : Nat → Ty} {a b : List Ty} {res : Option (Nat → Ty)} {c : Nat}, UnL m a b res c → ∀ {m' : Nat → Ty}, res = some m' → (∀ v, SN (m v)) → (∀ x ∈ a, SN x) → (∀ x ∈ b, SN x) → ∀ v, SN (m' v)
  | _, _, _, _, _, .nil m, m', e, h, _, _ => by injection e with e; subst e; exact h
  | _, _, _, _, _, .fail m x y l k c hu, m', e, h, _, _ => by cases e
  | _, _, _, _, _, .cons m m1 x y l k res c1 c2 hu hu2, m', e, h, ha, hb =>
    UnL.sn hu2 e (Un.sn hu rfl h (ha x (by simp)) (hb y (by simp))) (fun z hz => ha z (by simp [hz])) (fun z hz => hb z (by simp [hz]))
end

theorem canon_lt {t : Ty} {n : Nat} (h : ∀ v ∈ t.vars, v < n) : ∀ v ∈ (canon t).vars, v < n := fun v hv => by
  obtain ⟨w, h1, h2⟩ := Ty.mem_vars_sub.1 hv
  simp [ren, Ty.vars] at h2
  subst h2
  have h3 : w ∈ varsF [] t := varsF_mem.2 (.inr h1)
  have h4 := List.idxOf_lt_length_of_mem h3
  have h5 := nodup_le n (varsF [] t) (varsF_nd (by simp) t) (fun x hx => by
    rcases varsF_mem.1 hx with h6 | h6
    · simp at h6
    · exact h x h6)
  omega

def D6 : List Nat := [0, 1, 2, 3, 4, 5]
theorem mem_D6 {v : Nat} : v ∈ D6 ↔ v < 6 := by simp [D6]; omega
/-- What is so of what the variables 0 to 5 come to, all along. -/
structure UOk (m : Nat → Ty) : Prop where
  ex : ∃ s r, Sbs s m r ∧ Uni.Good D6 19 s
  sn : ∀ v, SN (m v)
/-- A small type over these. -/
structure T6 (t : Ty) : Prop where
  size : t.size ≤ 19
  ar : Ar t
  sn : SN t
  lt : ∀ v ∈ t.vars, v < 6
theorem UOk.start : UOk Ty.var := ⟨⟨_, _, Sbs.start, fun _ _ h => (by cases h)⟩, fun _ => trivial⟩
theorem T6.tyIn {t : Ty} (h : T6 t) : TyIn D6 19 t := ⟨h.size, fun v hv => mem_D6.2 (h.lt v hv)⟩
theorem UOk.vars {m : Nat → Ty} (h : UOk m) {t : Ty} (ht : ∀ v ∈ t.vars, v < 6) : ∀ v ∈ (t.sub m).vars, v < 6 := by
  obtain ⟨s, r, h1, h2⟩ := h.ex
  exact fun v hv => mem_D6.1 (sub_in (B := t.size + 19) h1 (fun n u hu => ⟨(h2 n u hu).1, Nat.le_trans (h2 n u hu).2.1 (by omega), (h2 n u hu).2.2⟩) ⟨by omega, fun w hw => mem_D6.2 (ht w hw)⟩ v hv)
theorem UOk.size {m : Nat → Ty} (h : UOk m) (t : Ty) : (t.sub m).size ≤ t.size * 47045881 := by
  obtain ⟨s, r, h1, h2⟩ := h.ex
  exact size_sub_le (by omega) fun w _ => size_all h1 h2 (by omega) (by decide) w
theorem UOk.step2 {m : Nat → Ty} (h : UOk m) {a b : Ty} (ha : T6 a) (hb : T6 b) : ∃ res c, Un m a b res c ∧ (∀ m', res = some m' → c ≤ 1099511627776 ∧ UOk m' ∧ a.sub m' = b.sub m' ∧ (∀ θ, Resp m θ → a.sub θ = b.sub θ → Resp m' θ) ∧ c ≤ (a.sub m').size) ∧
    (res = none → ∀ θ, Resp m θ → a.sub θ ≠ b.sub θ) := by
  obtain ⟨s, r, h1, h2⟩ := h.ex
  obtain ⟨res, c, h3, h4⟩ := tot D6 19 _ _ s m r h1 h2 (Nat.le_refl _) a b ha.tyIn hb.tyIn (Nat.le_refl _)
  refine ⟨res, c, h3, fun m' e => ?_, fun e => ?_⟩
  · subst e
    obtain ⟨s', r', p1, p2, p3, p4, p5, p6, p7⟩ := h4
    have hU : UOk m' := ⟨⟨s', r', p1, p2⟩, Un.sn h3 rfl h.sn ha.sn hb.sn⟩
    have e : a.sub m' = b.sub m' := by simpa using p4
    have hz := hU.size a
    have hz2 := ha.size
    simp only [Ty.sizeL] at p5
    exact ⟨by omega, hU, e, fun θ hθ e' => p6 θ hθ (by simp [e']), by omega⟩
  · subst e
    intro θ hθ e'
    exact h4 θ hθ (by simp [e'])
theorem UOk.step {m : Nat → Ty} (h : UOk m) {a b : Ty} (ha : T6 a) (hb : T6 b) : ∃ res c, Un m a b res c ∧ ∀ m', res = some m' → c ≤ 1099511627776 ∧ UOk m' ∧ a.sub m' = b.sub m' ∧ (∀ θ, Resp m θ → a.sub θ = b.sub θ → Resp m' θ) ∧ c ≤ (a.sub m').size := by
  obtain ⟨res, c, h1, h2, _⟩ := h.step2 ha hb
  exact ⟨res, c, h1, h2⟩
theorem UOk.idem {m : Nat → Ty} (h : UOk m) : Idem m := by
  obtain ⟨s, r, h1, h2⟩ := h.ex
  exact h1.idm
theorem UOk.VB {m : Nat → Ty} (h : UOk m) {t : Ty} (ht : ∀ v ∈ t.vars, v < 6) : VB (t.sub m) := fun v hv => by have := h.vars ht v hv; omega
theorem typF_T6 {l : List Nd} (h : l.length ≤ 9) : T6 (typF 13 l).1 := by
  have h1 := typF_ok 13 l
  have h2 := h1.le
  have h3 := h1.size
  exact ⟨by omega, h1.ar, h1.sn, h1.lt⟩
def tAll : Ty := .app ⟨#[97, 108, 108]⟩ [.var 0, .var 1, .var 2, .var 3, .var 4, .var 5]
theorem tAll_size : tAll.size = 7 := by simp [tAll, Ty.size, Ty.sizeL]
theorem tAll_ar : Ar tAll := by simp [tAll, Ar, ArL]
theorem tAll_sn : SN tAll := by simp [tAll, SN, SNL, ByteArray.size]
theorem tAll_lt : ∀ v ∈ tAll.vars, v < 6 := by simp [tAll, Ty.vars, Ty.varsL]
end Go.Ax

/- UnifyInto: the law. Conditions: none. -/
import Derived.Test.YtfpmohmhiecjfaaDoorUnZe
import Derived.Test.YtfpmohmhiecjfaaDoorUnZf
set_option linter.unusedSimpArgs false
set_option linter.unusedVariables false
namespace Go.Ax
open Go.Proofs Go.Uni

theorem ar_of_map {s : Nat → Option Ty} {m : Nat → Ty} {r : Nat → Nat} {es : List (Value × V)} (hs : SMap es s) (hm : Sbs s m r) : ∀ v, Ar (m v) := by
  have harm : ∀ (k v : Nat), r v < k → Ar (m v) := by
    intro k
    induction k with
    | zero => intro v hv; omega
    | succ k ih =>
      intro v hv
      cases hsv : s v with
      | none => rw [hm.un v hsv]; trivial
      | some u =>
        rw [hm.bd v u hsv]
        have hr := hm.rank v u hsv
        have key : ∀ t : Ty, Ar t → (∀ w ∈ t.vars, r w < r v) → Ar (t.sub m) := by
          intro t ht hw
          have e : t.sub m = t.sub (fun w => if r w < r v then m w else .var w) := Ty.sub_congr fun w h => by rw [if_pos (hw w h)]
          rw [e]
          refine Ar_sub (fun w => ?_) ht
          split
          · rename_i h; exact ih w (by omega)
          · trivial
        exact key u (hs.ar v u hsv) hr
  exact fun v => harm (r v + 1) v (by omega)
/-- What is so of a type whose text is taken. -/
structure FinG (t : Ty) : Prop where
  ar : Ar t
  sm : Sm t
  size : t.size ≤ 1099511627776
  vb : VB t
theorem like_selfG {t : Ty} (h : FinG t) (M : AMem) (hT : (∀ v ∈ t.vars, v < 100) ∨ Tab M) : ACalls Tryd.prog 15 [enc t, enc t] M (fun v M' => v = V.bool true ∧ M' = M) := by
  have h2 := h.size
  refine (like_ok t t h.ar h.sm (by omega) h.ar h.sm (by omega) M (hT.imp (fun h => ⟨h, h⟩) id)).mono ?_
  rintro v M' ⟨rfl, rfl⟩
  rw [strEq_self]
  exact ⟨rfl, rfl⟩
theorem finG_canon {t : Ty} (h : FinG t) (hS : SN t) : FinG (canon t) :=
  ⟨canon_Ar h.ar, Sm_of (canon_SN hS) (canon_VB h.vb), by rw [canon_size]; exact h.size, canon_VB h.vb⟩
theorem tInt_ok : PCalls Tryd.prog 22 [V.str ⟨#[73, 110, 116]⟩, .list .dull []] (enc tInt) := of_ok ⟨#[73, 110, 116]⟩ []

def wV (l : List Nat) : Nat → Ty := fun j => .var (l[j]?.getD 0 + 50)
def wU (v : Ty) : Nat → Ty := fun j => if j % 2 = 1 then tInt else v

/-- What the law makes of the two types. -/
theorem into_plain {t v : Ty} (zt : t.size ≤ 15) (zv : v.size ≤ 15) (rt : Ar t) (rv : Ar v) (nt : SN t) (nv : SN v) (lt : ∀ x ∈ t.vars, x < 6) (lv : ∀ x ∈ v.vars, x < 6) :
    (∀ i, Ar (v.sub (putN (varsF [] v) (wV (varsF [] v)) i))) ∧ (∀ j, ∀ x ∈ (wV (varsF [] v) j).vars, x ∉ varsF [] v) ∧
    ∀ v', v' = v.sub (putN (varsF [] v) (wV (varsF [] v)) (varsF [] v).length) → (∀ j, ∀ x ∈ (wU v' j).vars, x ∉ varsF [] t) ∧ (∀ i, Ar (t.sub (putN (varsF [] t) (wU v') i))) ∧
      ∀ u, u = t.sub (putN (varsF [] t) (wU v') (varsF [] t).length) → FinG u ∧ SN u ∧ (∀ x ∈ u.vars, x < 100) ∧ ∃ m c, Un Ty.var t u (some m) c ∧ c ≤ 1099511627776 ∧ t.sub m = u.sub m ∧ canon (t.sub m) = canon u ∧ SN (t.sub m) ∧ (∀ x ∈ (t.sub m).vars, x < 100) ∧ (t.sub m).size ≤ 1000 := by
  have hlv : ∀ x ∈ varsF [] v, x < 6 := fun x hx => by
    rcases varsF_mem.1 hx with h | h
    · cases h
    · exact lv x h
  have hlt : ∀ x ∈ varsF [] t, x < 6 := fun x hx => by
    rcases varsF_mem.1 hx with h | h
    · cases h
    · exact lt x h
  have hinv : ∀ x ∈ v.vars, x ∈ varsF [] v := fun x hx => varsF_mem.2 (.inr hx)
  have hint : ∀ x ∈ t.vars, x ∈ varsF [] t := fun x hx => varsF_mem.2 (.inr hx)
  have hwv : ∀ j, ∀ x ∈ (wV (varsF [] v) j).vars, 50 ≤ x ∧ x < 56 := fun j x hx => by
    simp [wV, Ty.vars] at hx
    subst hx
    cases h : (varsF [] v)[j]? with
    | none => simp
    | some y =>
      have := hlv y (List.mem_of_getElem? h)
      simp; omega
  have hwv' : ∀ j, ∀ x ∈ (wV (varsF [] v) j).vars, x ∉ varsF [] v := fun j x hx hc => by
    have := hwv j x hx
    have := hlv x hc
    omega
  refine ⟨fun i => Ar_sub (fun w => by unfold putN; split <;> trivial) rv, hwv', ?_⟩
  intro v' hv'
  have hvv : ∀ x ∈ v'.vars, 50 ≤ x ∧ x < 56 := fun x hx => by
    rw [hv'] at hx
    obtain ⟨j, _, h⟩ := putN_vars hinv x hx
    exact hwv j x h
  have rv' : Ar v' := by rw [hv']; exact Ar_sub (fun w => by unfold putN; split <;> trivial) rv
  have nv' : SN v' := by rw [hv']; exact SN_sub (fun w => by unfold putN; split <;> trivial) nv
  have zv' : v'.size ≤ 15 := by
    have := putN_size (l := varsF [] v) (w := wV (varsF [] v)) (C := 1) (by omega) (fun j => by simp [wV, Ty.size]) (varsF [] v).length v
    rw [← hv'] at this; omega
  have hwu : ∀ j, ∀ x ∈ (wU v' j).vars, 50 ≤ x ∧ x < 56 := fun j x hx => by
    unfold wU at hx
    split at hx
    · simp [tInt, Ty.vars, Ty.varsL] at hx
    · exact hvv x hx
  have hwu' : ∀ j, ∀ x ∈ (wU v' j).vars, x ∉ varsF [] t := fun j x hx hc => by
    have := hwu j x hx
    have := hlt x hc
    omega
  have rw' : ∀ j, Ar (wU v' j) := fun j => by
    unfold wU; split
    · simp [tInt, Ar, ArL]
    · exact rv'
  have nw' : ∀ j, SN (wU v' j) := fun j => by
    unfold wU; split
    · simp [tInt, SN, SNL, ByteArray.size]
    · exact nv'
  have zw' : ∀ j, (wU v' j).size ≤ 15 := fun j => by
    unfold wU; split
    · simp [tInt, Ty.size, Ty.sizeL]
    · exact zv'
  refine ⟨hwu', fun i => Ar_sub (fun w => by unfold putN; split; exact rw' _; trivial) rt, ?_⟩
  intro u hu
  have ru : Ar u := by rw [hu]; exact Ar_sub (fun w => by unfold putN; split; exact rw' _; trivial) rt
  have nu : SN u := by rw [hu]; exact SN_sub (fun w => by unfold putN; split; exact nw' _; trivial) nt
  have zu : u.size ≤ 225 := by
    have := putN_size (l := varsF [] t) (w := wU v') (C := 15) (by omega) zw' (varsF [] t).length t
    rw [← hu] at this; omega
  have luv : ∀ x ∈ u.vars, 50 ≤ x ∧ x < 56 := fun x hx => by
    rw [hu] at hx
    obtain ⟨j, _, h⟩ := putN_vars hint x hx
    exact hwu j x h
  have hself : u.sub (putN (varsF [] t) (wU v') (varsF [] t).length) = u := by
    have := putN_self hwu' hint
    rw [← hu] at this; exact this
  have vbu : VB u := fun x hx => by have := luv x hx; omega
  refine ⟨⟨ru, Sm_of nu vbu, by omega, vbu⟩, nu, fun x hx => by have := luv x hx; omega, ?_⟩
  obtain ⟨m, c, h1, h2, h3, h4, h5, h6⟩ := match_law (List.range 100) t u (putN (varsF [] t) (wU v') (varsF [] t).length) (fun x hx => by simp; have := lt x hx; omega) (fun x hx => by simp; have := luv x hx; omega) (by rw [← hu, hself]) nt nu
  rw [← hu] at h2
  refine ⟨m, c, h1, by omega, h3, ?_, SN_sub h6 nt, fun x hx => ?_, ?_⟩
  · exact canon_alike (a := u) (b := t.sub m) (m1 := putN (varsF [] t) (wU v') (varsF [] t).length) (m2 := m) h3.symm (by rw [h4.sub t, ← hu])
  · have := h5 t (fun y hy => by simp; have := lt y hy; omega) x hx
    simpa using this
  · have h7 := size_mono (putN (varsF [] t) (wU v') (varsF [] t).length) (t.sub m)
    rw [h4.sub t, ← hu] at h7
    omega
end Go.Ax

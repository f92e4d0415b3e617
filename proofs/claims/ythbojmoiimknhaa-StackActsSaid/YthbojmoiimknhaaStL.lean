import Derived.Test.YthbojmoiimknhaaStK
set_option linter.unusedSimpArgs false
set_option linter.unusedVariables false
namespace Go.Ax
open Go.Proofs

def newP (n p : Int) : Int := IntKind.i64.wrap (IntKind.i64.wrap (p.tdiv 2) + n)
def updF (n : Int) (f : Frm) : Frm := { f with l := f.l.map (newP n), a := if f.kind = 2 then newP n f.a else f.a }
def seenF (f : Frm) : List Int := f.l ++ (if f.kind = 2 then [f.a] else [])
def stpS (n : Int) : List Int → Int → Int × List Int := fun xs p => (newP n p, xs ++ [p])

theorem runL_S (n : Int) : ∀ (l s : List Int), runL (stpS n) s l = (l.map (newP n), s ++ l)
  | [], s => by simp [runL]
  | p :: l, s => by simp [runL, runL_S n l, stpS]
theorem runF_S (n : Int) (s : List Int) (f : Frm) : runF (stpS n) s f = (updF n f, s ++ seenF f) := by
  unfold runF
  rw [runL_S]
  split
  · rename_i h; simp [updF, seenF, stpS, h]
  · rename_i h; simp [updF, seenF, h]
theorem runFs_S (n : Int) : ∀ (fs : List Frm) (s : List Int), runFs (stpS n) s fs = (fs.map (updF n), s ++ fs.flatMap seenF)
  | [], s => by simp [runFs]
  | f :: fs, s => by simp [runFs, runF_S, runFs_S n fs]
theorem updF_ok {n : Int} {f : Frm} (h : f.ok) : (updF n f).ok := ⟨h.1, h.2.1, by simpa [updF] using h.2.2⟩
theorem updF_enc (n : Int) (f : Frm) : (updF n f).enc.length = f.enc.length := by simp [enc_length, updF]
theorem encL_upd (n : Int) (fs : List Frm) : (encL (fs.map (updF n))).length = (encL fs).length := by
  induction fs with
  | nil => rfl
  | cons f fs ih =>
    have h1 : ∀ (g : Frm) (gs : List Frm), (encL (g :: gs)).length = g.enc.length + (encL gs).length := fun g gs => by simp [encL]
    rw [List.map_cons, h1, h1, updF_enc, ih]

def LFrm.upd (n : Int) (y : LFrm) : LFrm := ⟨updF n y.f, y.id⟩

/-- A pointer of one frame is changed. -/
theorem ListAt.setL {M : AMem} {A B : List LFrm} {y : LFrm} {lk : Option Nat} (h : ListAt M (A ++ y :: B) lk) {cs : List V} (hc : M[y.id]? = some (.cells cs)) {p : Nat} (hp : p < y.f.l.length) (v : Int) :
    ListAt (M.set y.id (.cells (cs.take p ++ V.int v :: cs.drop (p + 1)))) (A ++ ⟨{ y.f with l := y.f.l.set p v }, y.id⟩ :: B) lk := by
  have hid := h.ids
  have hyl : y.id < M.length := lt_of_atS hc
  have hne : ∀ z, z ∈ A ∨ z ∈ B → z.id ≠ y.id := by
    intro z hz e
    rw [List.map_append, List.map_cons, List.nodup_append, List.nodup_cons] at hid
    rcases hz with hz | hz
    · exact hid.2.2 z.id (List.mem_map.2 ⟨z, hz, rfl⟩) y.id (by simp) e
    · exact hid.2.1.1 (by rw [← e]; exact List.mem_map.2 ⟨z, hz, rfl⟩)
  have hfl : ∀ (A : List LFrm), (A ++ ⟨{ y.f with l := y.f.l.set p v }, y.id⟩ :: B).flatMap LFrm.cells = (A ++ y :: B).flatMap LFrm.cells := fun A => by simp [LFrm.cells]
  refine ⟨fun e => ?_, fun k' e => ?_, fun x hx => ?_, by simpa using hid, fun k' x e hx => ?_⟩
  · have := h.fnone e; simp at this
  · obtain ⟨cs', h1, h2⟩ := h.fsome k' e
    refine ⟨cs', ?_, ?_⟩
    · rw [List.getElem?_set_ne (h.sep k' y e (by simp))]; exact h1
    · rw [hfl]; simpa using h2
  · have other : ∀ z, z ∈ A ∨ z ∈ B → ∃ cs', (M.set y.id (.cells (cs.take p ++ V.int v :: cs.drop (p + 1))))[z.id]? = some (.cells cs') ∧ cs'.take z.f.l.length = z.f.l.map V.int := by
      intro z hz
      obtain ⟨cs', h1, h2⟩ := h.each z (by rcases hz with hz | hz <;> simp [hz])
      exact ⟨cs', by rw [List.getElem?_set_ne (Ne.symm (hne z hz))]; exact h1, h2⟩
    rcases List.mem_append.1 hx with hx | hx
    · exact other x (.inl hx)
    · rcases List.mem_cons.1 hx with rfl | hx
      · obtain ⟨cs', h1, h2⟩ := h.each y (by simp)
        rw [hc] at h1
        injection h1 with h1; injection h1 with h1
        subst h1
        have hcl : y.f.l.length ≤ cs.length := by
          have := congrArg List.length h2
          simp at this; omega
        refine ⟨_, List.getElem?_set_self hyl, ?_⟩
        show (cs.take p ++ V.int v :: cs.drop (p + 1)).take (y.f.l.set p v).length = (y.f.l.set p v).map V.int
        rw [List.length_set, List.map_set, ← h2]
        apply List.ext_getElem?
        intro j
        rw [List.getElem?_take, List.getElem?_set]
        by_cases hj : j < y.f.l.length
        · rw [if_pos hj]
          rcases Nat.lt_trichotomy j p with hjp | hjp | hjp
          · rw [List.getElem?_append_left (by simp; omega), List.getElem?_take_of_lt hjp, if_neg (by omega), List.getElem?_take_of_lt hj]
          · subst hjp
            rw [List.getElem?_append_right (by simp; omega), if_pos rfl, if_pos (by simp; omega)]
            simp [Nat.min_eq_left (show j ≤ cs.length by omega)]
          · rw [List.getElem?_append_right (by simp; omega), if_neg (by omega), List.getElem?_take_of_lt hj]
            have e1 : (cs.take p).length = p := by simp; omega
            obtain ⟨m, rfl⟩ : ∃ m, j = p + 1 + m := ⟨j - p - 1, by omega⟩
            rw [e1, show p + 1 + m - p = m + 1 by omega, List.getElem?_cons_succ, List.getElem?_drop]
        · rw [if_neg hj, List.getElem?_eq_none (by simp; omega)]
          split
          · omega
          · rfl
      · exact other x (.inr hx)
  · rcases List.mem_append.1 hx with hx | hx
    · exact h.sep k' x e (by simp [hx])
    · rcases List.mem_cons.1 hx with rfl | hx
      · exact h.sep k' y e (by simp)
      · exact h.sep k' x e (by simp [hx])

/-- A frame's number is changed. -/
theorem ListAt.setA {M : AMem} {A B : List LFrm} {y : LFrm} {kk : Nat} (h : ListAt M (A ++ y :: B) (some kk)) {cs : List V} (hc : M[kk]? = some (.cells cs)) (v : Int) :
    ListAt (M.set kk (.cells (cs.take (4 * A.length + 1) ++ V.int v :: cs.drop (4 * A.length + 1 + 1)))) (A ++ ⟨{ y.f with a := v }, y.id⟩ :: B) (some kk) := by
  have hkl : kk < M.length := lt_of_atS hc
  obtain ⟨cs', h1, h2⟩ := h.fsome kk rfl
  rw [hc] at h1
  injection h1 with h1; injection h1 with h1
  subst h1
  have hlen := congrArg List.length h2
  rw [List.length_take, flat_len] at hlen
  have hcl : 4 * (A ++ y :: B).length ≤ cs.length := by omega
  have hAl : (A ++ y :: B).length = A.length + 1 + B.length := by simp; omega
  refine ⟨fun e => (by cases e), fun k' e => ?_, fun x hx => ?_, by simpa using h.ids, fun k' x e hx => ?_⟩
  · obtain rfl : kk = k' := by injection e
    refine ⟨_, List.getElem?_set_self hkl, ?_⟩
    have e1 : (A ++ ⟨{ y.f with a := v }, y.id⟩ :: B).length = (A ++ y :: B).length := by simp
    have e2 : (A ++ ⟨{ y.f with a := v }, y.id⟩ :: B).flatMap LFrm.cells = ((A ++ y :: B).flatMap LFrm.cells).set (4 * A.length + 1) (V.int v) := by
      rw [List.flatMap_append, List.flatMap_append, List.set_append_right _ _ (by rw [flat_len]; omega), flat_len, show 4 * A.length + 1 - 4 * A.length = 1 by omega]
      simp [LFrm.cells]
    rw [e1, e2, ← h2]
    apply List.ext_getElem?
    intro j
    rw [List.getElem?_take, List.getElem?_set]
    by_cases hj : j < 4 * (A ++ y :: B).length
    · rw [if_pos hj]
      rcases Nat.lt_trichotomy j (4 * A.length + 1) with hjp | hjp | hjp
      · rw [List.getElem?_append_left (by simp; omega), List.getElem?_take_of_lt hjp, if_neg (by omega), List.getElem?_take_of_lt hj]
      · subst hjp
        rw [List.getElem?_append_right (by simp; omega), if_pos rfl, if_pos (by simp; omega)]
        simp [Nat.min_eq_left (show 4 * A.length + 1 ≤ cs.length by omega)]
      · rw [List.getElem?_append_right (by simp; omega), if_neg (by omega), List.getElem?_take_of_lt hj]
        have e1 : (cs.take (4 * A.length + 1)).length = 4 * A.length + 1 := by simp; omega
        obtain ⟨m, rfl⟩ : ∃ m, j = 4 * A.length + 1 + 1 + m := ⟨j - (4 * A.length + 1) - 1, by omega⟩
        rw [e1, show 4 * A.length + 1 + 1 + m - (4 * A.length + 1) = m + 1 by omega, List.getElem?_cons_succ, List.getElem?_drop]
    · rw [if_neg hj, List.getElem?_eq_none (by simp; omega)]
      split
      · omega
      · rfl
  · have key : ∀ z, z ∈ A ++ y :: B → ∃ cs', (M.set kk (.cells (cs.take (4 * A.length + 1) ++ V.int v :: cs.drop (4 * A.length + 1 + 1))))[z.id]? = some (.cells cs') ∧ cs'.take z.f.l.length = z.f.l.map V.int := by
      intro z hz
      obtain ⟨cs', h1, h2⟩ := h.each z hz
      exact ⟨cs', by rw [List.getElem?_set_ne (Ne.symm (h.sep kk z rfl hz))]; exact h1, h2⟩
    rcases List.mem_append.1 hx with hx | hx
    · exact key x (by simp [hx])
    · rcases List.mem_cons.1 hx with rfl | hx
      · exact key y (by simp)
      · exact key x (by simp [hx])
  · rcases List.mem_append.1 hx with hx | hx
    · exact h.sep k' x e (by simp [hx])
    · rcases List.mem_cons.1 hx with rfl | hx
      · exact h.sep k' y e (by simp)
      · exact h.sep k' x e (by simp [hx])
end Go.Ax

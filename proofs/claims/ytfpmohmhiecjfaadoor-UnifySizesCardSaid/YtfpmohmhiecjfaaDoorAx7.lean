/- The abstract machine, part 7: literals of slices, slices of slices, make, maps. -/
import Derived.Test.YtfpmohmhiecjfaaDoorAx6
set_option linter.unusedVariables false
set_option linter.unusedSimpArgs false
namespace Go.Ax
open Go.RowKit

section
variable {P : Program} {G : Gh} {M : AMem} {w : World}

/-! #### A slice's literal -/
/-- Are the parts all, in order? -/
def inOrder : Nat → List Nat → Bool
  | _, [] => true
  | i, j :: r => Nat.beq i j && inOrder (i + 1) r

def buildSliceA (P : Program) (t : TypeId) (len : Nat) (ixs : List Nat) (vs : List V) : Option V :=
  match kT P t with
  | .slice e => if inOrder 0 ixs = true ∧ ixs.length = len ∧ vs.length = len ∧ (∀ v ∈ vs, v.cells.length = szT P e ∧ v.okv = true) ∧ 0 < szT P e ∧ len * szT P e ≤ 4096 ∧ (zeroT P e).map (fun z => z.cells.length) = some (szT P e) then some (.list .full vs) else none
  | _ => none

theorem inOrder_at : ∀ {ixs : List Nat} {i j k : Nat}, inOrder i ixs = true → ixs[j]? = some k → k = i + j
  | [], i, j, k, _, h => by simp at h
  | x :: r, i, 0, k, ho, h => by
    simp [inOrder] at ho h
    have := ho.1
    omega
  | x :: r, i, j + 1, k, ho, h => by
    simp [inOrder] at ho h
    have := inOrder_at ho.2 h
    omega

/-- What a literal's cells are, when all parts are there. -/
theorem fill_all {sz : Nat} (hz : 0 < sz) : ∀ (vals : List (Nat × Value)) (vs : List V) (i : Nat) (a : Array Value), vals.length = vs.length → (∀ (j : Nat) (q : Nat × Value), vals[j]? = some q → q.1 = i + j) → (∀ (j : Nat) (x : V) (q : Nat × Value), vs[j]? = some x → vals[j]? = some q → VR G x q.2) →
    (∀ v ∈ vs, v.cells.length = sz ∧ v.okv = true) → a.size = (i + vs.length) * sz →
    ∃ a', Instr.fill (fun i => some (i * sz, sz)) a vals = some a' ∧ a'.size = a.size ∧ (∀ j, j < i * sz → a'[j]? = a[j]?) ∧ ∀ (j : Nat) (x : V) (u : Value), (cellsL vs)[j]? = some x → a'[i * sz + j]? = some u → VR G x u
  | [], vs, i, a, hl, hi, hv, hs, ha => by
    have : vs = [] := List.eq_nil_of_length_eq_zero (by simpa using hl.symm)
    subst this
    exact ⟨a, rfl, rfl, fun _ _ => rfl, fun j x u hx => by simp at hx⟩
  | (k, u) :: vals, vs, i, a, hl, hi, hv, hs, ha => by
    cases vs with
    | nil => simp at hl
    | cons x vs =>
      have hk : k = i := by simpa using hi 0 _ rfl
      subst hk
      have hx := hv 0 x _ rfl rfl
      obtain ⟨h1, h2⟩ := hs x (by simp)
      obtain ⟨c1, c2, c3⟩ := VR.cells (x := x) (v := u) hx h2
      have ha' : a.size = (k + 1 + vs.length) * sz := by rw [ha]; simp only [List.length_cons]; congr 1; omega
      have hsz1 : (k + 1) * sz ≤ a.size := by rw [ha']; exact Nat.mul_le_mul_right _ (by omega)
      rw [Nat.add_mul, Nat.one_mul] at hsz1
      obtain ⟨a1, f1, f2, f3, f4⟩ := foldl_set u.cells.toList (k * sz) 0 a (by simp; omega)
      obtain ⟨a', g1, g2, g3, g4⟩ := fill_all hz vals vs (k + 1) a1 (by simpa using hl) (fun j q hq => by have := hi (j + 1) q (by simpa using hq); omega) (fun j y q hy hq => hv (j + 1) y q (by simpa using hy) (by simpa using hq))
        (fun v hv => hs v (by simp [hv])) (by rw [f2, ha'])
      refine ⟨a', ?_, by rw [g2, f2], fun j hj => ?_, fun j y v hy hv' => ?_⟩
      · unfold Instr.fill
        simp only
        rw [if_neg (by simp; constructor <;> omega), ← g1]
        congr 1
        rw [← f1, ← Array.foldl_toList, Array.toList_zipIdx]
      · rw [g3 j (by rw [Nat.add_mul, Nat.one_mul]; omega), f3 j (by omega)]
      · rw [cellsL_cons, List.getElem?_append] at hy
        split at hy
        · rename_i hj
          rw [g3 _ (by rw [Nat.add_mul, Nat.one_mul]; omega)] at hv'
          have := f4 j (by simp; omega)
          rw [Nat.add_zero] at this
          rw [this] at hv'
          exact c2 j y v hy (by simpa using hv')
        · rename_i hj
          refine g4 (j - x.cells.length) y v hy ?_
          rw [← hv']
          congr 1
          rw [Nat.add_mul, Nat.one_mul]
          omega

theorem snd_buildSlice (hR : Rel G M w) {t : TypeId} {len : Nat} {parts : List (Nat × V)} {vals : List (Nat × Value)} (hl : parts.length = vals.length) (hp : ∀ (j : Nat) (p : Nat × V) (q : Nat × Value), parts[j]? = some p → vals[j]? = some q → p.1 = q.1 ∧ VR G p.2 q.2) {z : V}
    (h : buildSliceA P t len (parts.map (·.1)) (parts.map (·.2)) = some z) : Snd P G w (Instr.buildSlice t len vals.toArray) z M := by
  unfold buildSliceA at h
  split at h
  · rename_i e hk
    split at h
    · rename_i hc
      injection h with h; subst h
      obtain ⟨h1, h2, h3, h4, h5, h6, h7⟩ := hc
      have hu := kT_slice hk
      obtain ⟨z0, hz0, hz1⟩ := Option.map_eq_some_iff.1 h7
      obtain ⟨inf, zv, hi, hzv, rfl⟩ := zeroT_some hz0
      have hsz : inf.size = szT P e := by simp [szT, hi]
      have hzs : zv.cells.size = szT P e := by rw [← constV_cells]; exact hz1
      have hpl : parts.length = len := by simpa using h2
      have hat : ∀ (j : Nat) (q : Nat × Value), vals[j]? = some q → ∃ p, parts[j]? = some p ∧ p.1 = j ∧ q.1 = j ∧ VR G p.2 q.2 := by
        intro j q hq
        have hj := (List.getElem?_eq_some_iff.1 hq).1
        have hpj : parts[j]? = some parts[j] := List.getElem?_eq_getElem (by omega)
        obtain ⟨e1, e2⟩ := hp j _ q hpj hq
        have : parts[j].1 = 0 + j := inOrder_at h1 (by rw [List.getElem?_map, hpj]; rfl)
        exact ⟨_, hpj, by omega, by omega, e2⟩
      by_cases hlen : len = 0
      · subst hlen
        have hv0 : vals = [] := List.eq_nil_of_length_eq_zero (by omega)
        have hp0 : parts = [] := List.eq_nil_of_length_eq_zero (by omega)
        subst hv0; subst hp0
        obtain ⟨hle, hR2⟩ := hR.allocI #[] e
        refine ⟨.slice (some ⟨w.heap.size, 0, none⟩) 0 0, _, _, ?_, hle, hR2, .nil _ _ _ (.inr rfl) (fun i e => by cases e)⟩
        simp [Instr.buildSlice, run_underlying hu, sizeOf, typeInfo, hi, Instr.fill, newRow, Array.range_zero']
      · have hlp : 0 < len := Nat.pos_of_ne_zero hlen
        have hA : ((Array.range (len * szT P e)).map (zv.cells[· % zv.cells.size]!)).size = (0 + (parts.map (·.2)).length) * szT P e := by simp [hpl]
        obtain ⟨a', f1, f2, f3, f4⟩ := fill_all (G := G) h5 vals (parts.map (·.2)) 0 _ (by simpa using hl.symm) (fun j q hq => by obtain ⟨p, _, _, h, _⟩ := hat j q hq; omega) (fun j x q hx hq => by
          obtain ⟨p, g1, _, _, g2⟩ := hat j q hq
          rw [List.getElem?_map, g1] at hx
          injection hx with hx
          subst hx
          exact g2) h4 hA
        obtain ⟨hle, hR2⟩ := hR.allocI a' e
        have hsz2 : a'.size = len * szT P e := by rw [f2, hA]; simp [hpl]
        refine ⟨.slice (some ⟨w.heap.size, 0, none⟩) len len, _, _, ?_, hle, hR2, ?_⟩
        · have hne : ¬ (len = 0 ∨ inf.size = 0) := by omega
          have hle2 : ¬ (2 ^ 24 < len * inf.size) := by rw [hsz]; omega
          have hne2 : ¬ (len * inf.size = 0) := by
            intro h0
            rcases Nat.mul_eq_zero.1 h0 with h | h <;> omega
          unfold Instr.buildSlice
          simp only [Sem.run_bind, run_underlying hu, Result.andThen_ok, sizeOf, typeInfo, run_program, hi, Sem.run_pure, hle2, if_false, hne2, zeroValue, hzv, GT.gt]
          rw [hsz]
          rw [f1]
          simp [newRow]
        · have hm : (parts.map (·.2)).length = len := by simp [hpl]
          have hc := cellsL_length (fun x hx => (h4 x hx).1)
          have := VR.list (G := G.withI w.heap.size (fun o => a'[o]?)) .full (parts.map (fun p : Nat × V => p.2)) w.heap.size 0 len (szT P e) (fun j => a'.getD j undef) (by omega) h5 (fun x hx => (h4 x hx).1) (fun j hj => ?_) (fun j x hx => ?_) (by omega) (show len = (parts.map (fun p : Nat × V => p.2)).length from hm.symm)
          · rw [hm] at this; exact this
          · show (if w.heap.size = w.heap.size then a'[0 + j]? else _) = _
            rw [if_pos rfl, Nat.zero_add, Array.getD_eq_getD_getElem?, Array.getElem?_eq_getElem (by rw [hsz2, ← hm]; exact hj)]
            rfl
          · have hj := (List.getElem?_eq_some_iff.1 hx).1
            rw [hc] at hj
            refine (f4 j x _ hx ?_).mono hle
            rw [Nat.zero_mul, Nat.zero_add, Array.getD_eq_getD_getElem?, Array.getElem?_eq_getElem (by rw [hsz2, ← hm]; exact hj)]
            rfl
    · cases h
  · cases h

/-! #### Slices of slices, and of strings -/
/-- A bound that is given, or another one. -/
def boundA (d : Int) : Option V → Option Int
  | none => some d
  | some (.prim (.int _ n)) => some n
  | _ => none

def sliceA (P : Program) (t : TypeId) (x : V) (lo hi mx : Option V) : Option V :=
  match kT P t, x with
  | .str, .prim (.string s) => match boundA 0 lo, boundA s.size hi, mx with
    | some l, some h, none => if 0 ≤ l ∧ l ≤ h ∧ h ≤ s.size then some (.str (s.extract l.toNat h.toNat)) else none
    | _, _, _ => none
  | .slice e, .list _ xs => match boundA 0 lo, boundA xs.length hi, mx with
    | some l, some h, none => if 0 ≤ l ∧ l ≤ h ∧ h ≤ xs.length ∧ (∀ x ∈ xs, x.cells.length = szT P e) ∧ 0 < szT P e then some (.list .dull ((xs.drop l.toNat).take (h.toNat - l.toNat))) else none
    | some l, some h, some (.prim (.int _ m)) => if 0 ≤ l ∧ l ≤ h ∧ h = m ∧ m ≤ xs.length ∧ (∀ x ∈ xs, x.cells.length = szT P e) ∧ 0 < szT P e ∧ hi.isSome = true then some (.list .full ((xs.drop l.toNat).take (h.toNat - l.toNat))) else none
    | _, _, _ => none
  | .slice e, .arr i off len sz => match boundA 0 lo, boundA len hi, mx with
    | some l, some h, none => if 0 ≤ l ∧ l ≤ h ∧ h ≤ len ∧ sz = szT P e ∧ 0 < sz then (if l < h ∨ l = 0 then some (.arr i (off + l.toNat * sz) (h.toNat - l.toNat) sz) else some (.list .dull [])) else none
    | some l, some h, some (.prim (.int _ m)) => if 0 ≤ l ∧ l ≤ h ∧ h ≤ m ∧ m ≤ len ∧ sz = szT P e ∧ 0 < sz ∧ hi.isSome = true then (if l < h ∨ l = 0 then some (.arr i (off + l.toNat * sz) (h.toNat - l.toNat) sz) else some (.list .dull [])) else none
    | _, _, _ => none
  | _, _ => none

/-- What the model's slice expression comes to. -/
theorem run_slice_at {t e : TypeId} (hu : P.underlying t = some (.slice e)) {a : Option Addr} {len cap : Nat} {lo hi mx : Option V} {lov hiv mxv : Option Value} (hlo : ∀ v, lo = some v → ∃ u, lov = some u ∧ VR G v u) (hlo' : lo = none → lov = none)
    (hhi : ∀ v, hi = some v → ∃ u, hiv = some u ∧ VR G v u) (hhi' : hi = none → hiv = none) (hmx : ∀ v, mx = some v → ∃ u, mxv = some u ∧ VR G v u) (hmx' : mx = none → mxv = none) {l h : Int} (hl : boundA 0 lo = some l) (hh : boundA len hi = some h) {m : Int}
    (hm : mx = none ∧ m = cap ∨ ∃ k, mx = some (.prim (.int k m)) ∧ hi ≠ none) (h0 : 0 ≤ l) (h1 : l ≤ h) (h2 : h ≤ m) (h3 : m ≤ cap) {i : TypeInfo} (hi' : P.info? e = some i) :
    (Instr.sliceAt t (.slice a len cap) lov hiv mxv).run P w = .ok (.slice (if m.toNat = l.toNat then a else a.map (·.add (l.toNat * i.size))) (h.toNat - l.toNat) (m.toNat - l.toNat)) w := by
  have hu' : P.underlying t = some (.slice (P.elem t)) := by rw [hu]; simp [Program.elem, hu]
  have bl : ∀ {d : Int} {o : Option V} {ov : Option Value} {x : Int}, (∀ v, o = some v → ∃ u, ov = some u ∧ VR G v u) → (o = none → ov = none) → boundA d o = some x → (ov = none ∧ x = d) ∨ ∃ k, ov = some (.int k x) := by
    intro d o ov x h1 h2 hb
    cases o with
    | none => simp [boundA] at hb; exact .inl ⟨h2 rfl, hb.symm⟩
    | some v =>
      obtain ⟨u, hu, hv⟩ := h1 v rfl
      cases v with
      | prim v =>
        cases v <;> simp [boundA] at hb
        subst hb
        cases hv
        exact .inr ⟨_, hu⟩
      | _ => simp [boundA] at hb
  have hmm : (mxv = none ∧ m = cap) ∨ ∃ k, mxv = some (.int k m) ∧ hiv ≠ none := by
    rcases hm with ⟨rfl, hm⟩ | ⟨k, rfl, hne⟩
    · exact .inl ⟨hmx' rfl, hm⟩
    · obtain ⟨u, hu, hv⟩ := hmx _ rfl
      cases hv
      refine .inr ⟨k, hu, ?_⟩
      cases hi with
      | none => exact absurd rfl hne
      | some v => obtain ⟨u, hu, _⟩ := hhi v rfl; rw [hu]; simp
  have nat : ∀ n : Nat, ((n : Int)).toNat = n := fun n => by simp
  unfold Instr.sliceAt
  rw [Sem.run_bind, run_underlying hu]
  simp only [Result.andThen_ok]
  unfold Instr.slice
  rw [Sem.run_bind, run_underlying hu]
  simp only [Result.andThen_ok]
  have hsz : (sizeOf e).run P w = .ok i.size w := by simp [sizeOf, typeInfo, hi']
  have sb : ∀ (k : IntKind) (x : Int) (y : Nat) (c : BoundsCode), 0 ≤ x → x ≤ y → (Instr.sliceBound (.int k x) y c).run P w = .ok x.toNat w := fun k x y c hx hy => run_sliceBound w k x y c hx hy
  rcases bl hlo hlo' hl with ⟨rfl, rfl⟩ | ⟨kl, rfl⟩ <;> rcases bl hhi hhi' hh with ⟨rfl, rfl⟩ | ⟨kh, rfl⟩ <;> rcases hmm with ⟨rfl, rfl⟩ | ⟨km, rfl, hne⟩
  · have : len ≤ cap := by omega
    simp [Instr.sliceBounds, hsz]
  · exact absurd rfl hne
  · have e1 := sb kh h cap .sliceAcap (by omega) (by omega)
    simp [Instr.sliceBounds, e1, hsz]
  · have e1 := sb km m cap .slice3Acap (by omega) (by omega)
    have e2 := sb kh h m.toNat .slice3B (by omega) (by omega)
    simp [Instr.sliceBounds, e1, e2, hsz]
  · have e1 := sb kl l len .sliceB (by omega) (by omega)
    simp [Instr.sliceBounds, e1, hsz]
  · exact absurd rfl hne
  · have e1 := sb kh h cap .sliceAcap (by omega) (by omega)
    have e2 := sb kl l h.toNat .sliceB (by omega) (by omega)
    simp [Instr.sliceBounds, e1, e2, hsz]
  · have e1 := sb km m cap .slice3Acap (by omega) (by omega)
    have e2 := sb kh h m.toNat .slice3B (by omega) (by omega)
    have e3 := sb kl l h.toNat .slice3C (by omega) (by omega)
    simp [Instr.sliceBounds, e1, e2, e3, hsz]

theorem snd_slice (hR : Rel G M w) {t : TypeId} {x z : V} {v : Value} {lo hi mx : Option V} {lov hiv mxv : Option Value} (hx : VR G x v) (hlo : ∀ v, lo = some v → ∃ u, lov = some u ∧ VR G v u) (hlo' : lo = none → lov = none)
    (hhi : ∀ v, hi = some v → ∃ u, hiv = some u ∧ VR G v u) (hhi' : hi = none → hiv = none) (hmx : ∀ v, mx = some v → ∃ u, mxv = some u ∧ VR G v u) (hmx' : mx = none → mxv = none) (h : sliceA P t x lo hi mx = some z) :
    Snd P G w (Instr.sliceAt t v lov hiv mxv) z M := by
  unfold sliceA at h
  split at h
  · -- strings
    rename_i s hk
    split at h
    · rename_i l hh hl hb
      split at h
      · rename_i hc
        injection h with h; subst h
        obtain ⟨h0, h1, h2⟩ := hc
        have hu := kT_str hk
        cases hx
        obtain rfl := hmx' rfl
        have bl : ∀ {d : Int} {o : Option V} {ov : Option Value} {x : Int}, (∀ v, o = some v → ∃ u, ov = some u ∧ VR G v u) → (o = none → ov = none) → boundA d o = some x → (ov = none ∧ x = d) ∨ ∃ k, ov = some (.int k x) := by
          intro d o ov x h1 h2 hb
          cases o with
          | none => simp [boundA] at hb; exact .inl ⟨h2 rfl, hb.symm⟩
          | some v =>
            obtain ⟨u, hu, hv⟩ := h1 v rfl
            cases v with
            | prim v =>
              cases v <;> simp [boundA] at hb
              subst hb
              cases hv
              exact .inr ⟨_, hu⟩
            | _ => simp [boundA] at hb
        refine .pure hR (v := .string (s.extract l.toNat hh.toNat)) ?_ (.prim _)
        have sb : ∀ (k : IntKind) (x : Int) (y : Nat) (c : BoundsCode), 0 ≤ x → x ≤ y → (Instr.sliceBound (.int k x) y c).run P w = .ok x.toNat w := fun k x y c hx hy => run_sliceBound w k x y c hx hy
        unfold Instr.sliceAt
        rw [Sem.run_bind, run_underlying hu]
        simp only [Result.andThen_ok]
        unfold Instr.slice
        rw [Sem.run_bind, run_underlying hu]
        rcases bl hlo hlo' hl with ⟨rfl, rfl⟩ | ⟨kl, rfl⟩ <;> rcases bl hhi hhi' hb with ⟨rfl, rfl⟩ | ⟨kh, rfl⟩
        · simp [Instr.sliceBounds]
        · have e1 := sb kh hh s.size .sliceAlen (by omega) (by omega)
          simp [Instr.sliceBounds, e1]
        · have e1 := sb kl l s.size .sliceB (by omega) (by omega)
          simp [Instr.sliceBounds, e1]
        · have e1 := sb kh hh s.size .sliceAlen (by omega) (by omega)
          have e2 := sb kl l hh.toNat .sliceB (by omega) (by omega)
          simp [Instr.sliceBounds, e1, e2]
      · cases h
    · cases h
  · -- slices that don't change
    rename_i e tg xs hk
    have hu := kT_slice hk
    have key : ∀ (l hh m : Int) (tag : Tag), boundA 0 lo = some l → boundA xs.length hi = some hh → ((mx = none ∧ tag = .dull) ∨ (∃ k, mx = some (.prim (.int k m)) ∧ tag = .full ∧ hh = m)) → 0 ≤ l → l ≤ hh → hh ≤ xs.length → (∀ x ∈ xs, x.cells.length = szT P e) → 0 < szT P e → (mx = none ∨ hi ≠ none) →
        Snd P G w (Instr.sliceAt t v lov hiv mxv) (.list tag ((xs.drop l.toNat).take (hh.toNat - l.toNat))) M := by
      intro l hh m tag hl hb hm h0 h1 h2 hs hpos hhi0
      obtain ⟨inf, hinf, hsz⟩ := info_of hpos
      have hlen : ((xs.drop l.toNat).take (hh.toNat - l.toNat)).length = hh.toNat - l.toNat := by simp; omega
      have go : ∀ (a : Option Addr) (cap : Nat), xs.length ≤ cap → ∃ mm : Int, hh ≤ mm ∧ (tag = .full → mm = hh) ∧ mm ≤ cap ∧
          (Instr.sliceAt t (.slice a xs.length cap) lov hiv mxv).run P w = .ok (.slice (if mm.toNat = l.toNat then a else a.map (·.add (l.toNat * inf.size))) (hh.toNat - l.toNat) (mm.toNat - l.toNat)) w := by
        intro a cap hc
        rcases hm with ⟨rfl, rfl⟩ | ⟨k, rfl, rfl, rfl⟩
        · exact ⟨cap, by omega, (fun h => by cases h), Int.le_refl _, run_slice_at hu hlo hlo' hhi hhi' hmx hmx' hl hb (m := cap) (.inl ⟨rfl, rfl⟩) h0 h1 (by omega) (Int.le_refl _) hinf⟩
        · exact ⟨hh, Int.le_refl _, fun _ => rfl, by omega, run_slice_at hu hlo hlo' hhi hhi' hmx hmx' hl hb (m := hh) (.inr ⟨k, rfl, hhi0.resolve_left (by simp)⟩) h0 h1 (Int.le_refl _) (by omega) hinf⟩
      have tagv : tag = .dull ∨ tag = .full := by rcases hm with ⟨_, h⟩ | ⟨_, _, h, _⟩ <;> simp [h]
      cases hx with
      | nil _ a cap g1 g2 =>
        obtain ⟨mm, q1, q2, q3, hrun⟩ := go a cap (by simp)
        simp at h2
        have hd : ((([] : List V).drop l.toNat).take (hh.toNat - l.toNat)) = [] := by simp
        rw [hd]
        refine .pure hR hrun ?_
        have e0 : hh.toNat - l.toNat = 0 := by omega
        rw [e0]
        refine .nil _ _ _ ?_ (fun i e => ?_)
        · rcases tagv with rfl | rfl
          · exact .inl rfl
          · have := q2 rfl; right; omega
        · rcases tagv with rfl | rfl <;> cases e
      | list _ _ b o cap sz val g1 g2 g3 g4 g5 g6 g7 =>
        obtain ⟨mm, q1, q2, q3, hrun⟩ := go (some ⟨b, o, none⟩) cap g6
        have hsz' : sz = szT P e := by
          obtain ⟨x, hx⟩ : ∃ x, x ∈ xs := ⟨xs[0], List.getElem_mem g1⟩
          rw [← g3 x hx, hs x hx]
        by_cases hlt : l.toNat < hh.toNat
        · have hne : ¬ mm.toNat = l.toNat := by omega
          rw [if_neg hne, Option.map_some, Addr.add_mid, hsz, ← hsz'] at hrun
          refine .pure hR hrun ?_
          have hmul : (hh.toNat) * sz ≤ xs.length * sz := Nat.mul_le_mul_right _ (by omega)
          have hsub : (hh.toNat - l.toNat) * sz = hh.toNat * sz - l.toNat * sz := Nat.sub_mul _ _ _
          have hmul2 : l.toNat * sz ≤ hh.toNat * sz := Nat.mul_le_mul_right _ (by omega)
          have := VR.list (G := G) tag ((xs.drop l.toNat).take (hh.toNat - l.toNat)) b (o + l.toNat * sz) (mm.toNat - l.toNat) sz (fun j => val (l.toNat * sz + j)) (by omega) g2
            (fun x hx => g3 x (List.mem_of_mem_drop (List.mem_of_mem_take hx))) (fun j hj => by rw [hlen] at hj; rw [Nat.add_assoc]; exact g4 _ (by omega)) (fun j x hx => ?_) (by omega) ?_
          · rw [hlen] at this; exact this
          · refine g5 _ x ?_
            have hj := (List.getElem?_eq_some_iff.1 hx).1
            rw [cellsL_length (fun x hx => g3 x (List.mem_of_mem_drop (List.mem_of_mem_take hx))), hlen] at hj
            -- the cells of a part of a list
            have hq : j / sz < hh.toNat - l.toNat := by rw [Nat.div_lt_iff_lt_mul g2]; exact hj
            have hr : j % sz < sz := Nat.mod_lt _ g2
            have hxq : l.toNat + j / sz < xs.length := by omega
            have e1 := cellsL_at (xs := (xs.drop l.toNat).take (hh.toNat - l.toNat)) (i := j / sz) (x := xs[l.toNat + j / sz]) (fun x hx => g3 x (List.mem_of_mem_drop (List.mem_of_mem_take hx))) (by
              rw [List.getElem?_take, if_pos hq, List.getElem?_drop, List.getElem?_eq_getElem hxq]) (j % sz) hr
            have e2 := cellsL_at (xs := xs) (i := l.toNat + j / sz) (x := xs[l.toNat + j / sz]) g3 (List.getElem?_eq_getElem hxq) (j % sz) hr
            have hdm := Nat.div_add_mod j sz
            rw [Nat.mul_comm] at hdm
            rw [hdm] at e1
            have e3 : (l.toNat + j / sz) * sz + j % sz = l.toNat * sz + j := by rw [Nat.add_mul]; omega
            rw [e3] at e2
            rw [e2, ← e1]
            exact hx
          · rcases tagv with rfl | rfl
            · trivial
            · show mm.toNat - l.toNat = _
              rw [hlen, q2 rfl]
        · have e0 : hh.toNat - l.toNat = 0 := by omega
          have hd : ((xs.drop l.toNat).take (hh.toNat - l.toNat)) = [] := by rw [e0]; simp
          rw [hd]
          refine .pure hR hrun ?_
          rw [e0]
          refine .nil _ _ _ ?_ (fun i e => ?_)
          · rcases tagv with rfl | rfl
            · exact .inl rfl
            · have := q2 rfl; right; omega
          · rcases tagv with rfl | rfl <;> cases e
    split at h
    · rename_i l hh hl hb
      split at h
      · rename_i hc
        injection h with h; subst h
        exact key l hh 0 .dull hl hb (.inl ⟨rfl, rfl⟩) hc.1 hc.2.1 hc.2.2.1 hc.2.2.2.1 hc.2.2.2.2 (.inl rfl)
      · cases h
    · rename_i l hh k m hl hb
      split at h
      · rename_i hc
        injection h with h; subst h
        obtain ⟨c1, c2, c3, c4, c5, c6, c7⟩ := hc
        cases hi with
        | none => cases c7
        | some hv => exact key l hh m .full hl hb (.inr ⟨k, rfl, rfl, c3⟩) c1 c2 (by omega) c5 c6 (.inr (by simp))
      · cases h
    · cases h
  · -- rows
    rename_i e i off len sz hk
    have hu := kT_slice hk
    have key : ∀ (l hh m : Int), boundA 0 lo = some l → boundA len hi = some hh → (mx = none ∨ ∃ k, mx = some (.prim (.int k m)) ∧ hi ≠ none ∧ hh ≤ m ∧ m ≤ len) → 0 ≤ l → l ≤ hh → hh ≤ len → sz = szT P e → 0 < sz →
        Snd P G w (Instr.sliceAt t v lov hiv mxv) (if l < hh ∨ l = 0 then (.arr i (off + l.toNat * sz) (hh.toNat - l.toNat) sz) else (.list .dull [])) M := by
      intro l hh m hl hb hm h0 h1 h2 hs hpos
      obtain ⟨inf, hinf, hsz⟩ := info_of (P := P) (t := e) (by omega)
      have go : ∀ (a : Option Addr) (cap : Nat), len ≤ cap → ∃ mm : Int, hh ≤ mm ∧ mm ≤ cap ∧
          (Instr.sliceAt t (.slice a len cap) lov hiv mxv).run P w = .ok (.slice (if mm.toNat = l.toNat then a else a.map (·.add (l.toNat * inf.size))) (hh.toNat - l.toNat) (mm.toNat - l.toNat)) w := by
        intro a cap hc
        rcases hm with rfl | ⟨k, rfl, hne, hq1, hq2⟩
        · exact ⟨cap, by omega, Int.le_refl _, run_slice_at hu hlo hlo' hhi hhi' hmx hmx' hl hb (m := cap) (.inl ⟨rfl, rfl⟩) h0 h1 (by omega) (Int.le_refl _) hinf⟩
        · exact ⟨m, hq1, by omega, run_slice_at hu hlo hlo' hhi hhi' hmx hmx' hl hb (m := m) (.inr ⟨k, rfl, hne⟩) h0 h1 hq1 (by omega) hinf⟩
      cases hx with
      | arr _ _ _ _ cap c g1 g2 g3 g4 =>
        obtain ⟨mm, q1, q2, hrun⟩ := go (some ⟨G.φ i, off, none⟩) cap g3
        by_cases hlt : l < hh ∨ l = 0
        · rw [if_pos hlt]
          refine .pure hR hrun ?_
          have ha : (if mm.toNat = l.toNat then some (⟨G.φ i, off, none⟩ : Addr) else (some (⟨G.φ i, off, none⟩ : Addr)).map (·.add (l.toNat * inf.size))) = some ⟨G.φ i, off + l.toNat * sz, none⟩ := by
            rw [hsz, ← hs]
            split
            · rename_i he
              have : l = 0 := by omega
              subst this
              simp
            · rw [Option.map_some, Addr.add_mid]
          rw [ha]
          have hmul : mm.toNat * sz ≤ cap * sz := Nat.mul_le_mul_right _ (by omega)
          have hmul2 : l.toNat * sz ≤ mm.toNat * sz := Nat.mul_le_mul_right _ (by omega)
          exact .arr i _ _ sz _ c g1 g2 (by omega) (by rw [Nat.sub_mul]; omega)
        · rw [if_neg hlt]
          refine .pure hR hrun ?_
          have e0 : hh.toNat - l.toNat = 0 := by omega
          rw [e0]
          exact .nil _ _ _ (.inl rfl) (fun i e => by cases e)
      | arrNil _ _ a g1 g2 =>
        obtain ⟨mm, q1, q2, hrun⟩ := go a 0 (Nat.le_refl _)
        have hl0 : l = 0 := by omega
        have hh0 : hh = 0 := by omega
        have hm0 : mm = 0 := by omega
        subst hl0; subst hh0; subst hm0
        rw [if_pos (.inr rfl)]
        refine .pure hR hrun ?_
        have := VR.arrNil (G := G) i sz a g1 g2
        simpa using this
    split at h
    · rename_i l hh hl hb
      split at h
      · rename_i hc
        have := key l hh 0 hl hb (.inl rfl) hc.1 hc.2.1 hc.2.2.1 hc.2.2.2.1 hc.2.2.2.2
        split at h
        · rename_i hlt
          injection h with h; subst h
          rw [if_pos hlt] at this
          exact this
        · rename_i hlt
          injection h with h; subst h
          rw [if_neg hlt] at this
          exact this
      · cases h
    · rename_i l hh k m hl hb
      split at h
      · rename_i hc
        cases hi with
        | none => exact absurd hc.2.2.2.2.2.2 (by simp)
        | some hv =>
          have := key l hh m hl hb (.inr ⟨k, rfl, by simp, hc.2.2.1, hc.2.2.2.1⟩) hc.1 hc.2.1 (by omega) hc.2.2.2.2.1 hc.2.2.2.2.2.1
          split at h
          · rename_i hlt
            injection h with h; subst h
            rw [if_pos hlt] at this
            exact this
          · rename_i hlt
            injection h with h; subst h
            rw [if_neg hlt] at this
            exact this
      · cases h
    · cases h
  · cases h

end
end Go.Ax

/- The abstract machine, part 8: maps, make. -/
import Derived.Test.YtfpmohmhiecjfaaDoorAx7
import Derived.MapKept
set_option linter.unusedVariables false
set_option linter.unusedSimpArgs false
namespace Go.Ax
open Go.RowKit Go.MapKept

/-- Are two keys one? (Whole numbers of one kind, strings: of others nothing is said.) -/
def keyEq : Value → Value → Option Bool
  | .int k a, .int k' b => if k = k' then some (decide (a = b)) else none
  | .string a, .string b => some (strEq a b)
  | _, _ => none

def aget : List (Value × V) → Value → Option (Option V)
  | [], _ => some none
  | (k, v) :: r, key => match keyEq key k with
    | some true => some (some v)
    | some false => aget r key
    | none => none

def aput : List (Value × V) → Value → V → Option (List (Value × V))
  | [], key, v => some [(key, v)]
  | (k, x) :: r, key, v => match keyEq key k with
    | some true => some ((key, v) :: r)
    | some false => match aput r key v with
      | some r' => some ((k, x) :: r')
      | none => none
    | none => none

/-- Is a value a key of a type? -/
def keyOk (k : TK) (v : Value) : Bool :=
  match k, v with
  | .int k, .int k' _ => decide (k = k')
  | .str, .string _ => true
  | _, _ => false

def kindD : TK → TypeDesc
  | .int k => .int k
  | .str => .string
  | _ => .invalid

theorem keyEq_now {kd : TK} {a b : Value} (ha : keyOk kd a = true) {r : Bool} (h : keyEq a b = some r) : Instr.sameNow (kindD kd) a b = some r ∧ (r = true → a = b) := by
  unfold keyEq at h
  split at h
  · rename_i k x k' y
    split at h
    · rename_i he
      injection h with h
      subst he
      cases kd <;> simp [keyOk] at ha
      subst ha
      refine ⟨?_, fun hr => ?_⟩
      · simp only [kindD, Instr.sameNow, if_true]
        rw [← h]
        congr 1
      · subst h
        rw [of_decide_eq_true hr]
    · cases h
  · rename_i x y
    injection h with h
    cases kd <;> simp [keyOk] at ha
    refine ⟨?_, fun hr => ?_⟩
    · simp only [kindD, Instr.sameNow]
      rw [← h]
      congr 1
      rw [Bool.eq_iff_iff, bytes_beq, strEq_iff]
    · subst h
      rw [strEq_iff.1 hr]
  · cases h

theorem isKey_of {kd : TK} {v : Value} (h : keyOk kd v = true) : IsKey (kindD kd) v := by
  cases kd <;> cases v <;> simp_all [keyOk, kindD, IsKey]

theorem kT_kindD {P : Program} {t : TypeId} {v : Value} (h : keyOk (kT P t) v = true) : P.underlying t = some (kindD (kT P t)) := by
  cases hk : kT P t with
  | int k => exact kT_int hk
  | str => exact kT_str hk
  | _ => rw [hk] at h; cases v <;> simp [keyOk] at h

def EntsR (G : Gh) (es : List (Value × V)) (ents : List MapEntry) : Prop :=
  ents.length = es.length ∧ ∀ (j : Nat) (k : Value) (x : V) (e : MapEntry), es[j]? = some (k, x) → ents[j]? = some e → e.key = k ∧ VR G x e.val

theorem EntsR.tail {G : Gh} {p : Value × V} {es : List (Value × V)} {e : MapEntry} {ents : List MapEntry} (h : EntsR G (p :: es) (e :: ents)) : e.key = p.1 ∧ VR G p.2 e.val ∧ EntsR G es ents :=
  ⟨(h.2 0 p.1 p.2 e rfl rfl).1, (h.2 0 p.1 p.2 e rfl rfl).2, by simpa using h.1, fun j k x e' h1 h2 => h.2 (j + 1) k x e' (by simpa using h1) (by simpa using h2)⟩

/-- The first entry of a key. -/
theorem aget_sound {G : Gh} {kd : TK} {key : Value} (hk : keyOk kd key = true) : ∀ {es : List (Value × V)} {ents : List MapEntry} {r : Option V}, EntsR G es ents → aget es key = some r → ∀ i,
    (r = none ∧ Instr.findNow (kindD kd) key ents i = some none) ∨ ∃ x j e, r = some x ∧ Instr.findNow (kindD kd) key ents i = some (some (i + j, e.val)) ∧ ents[j]? = some e ∧ e.key = key ∧ VR G x e.val
  | [], ents, r, h, hg, i => by
    simp [aget] at hg
    have : ents = [] := List.eq_nil_of_length_eq_zero (by simpa using h.1)
    subst this
    exact .inl ⟨hg.symm, rfl⟩
  | (k, v) :: es, [], r, h, hg, i => by have := h.1; simp at this
  | (k, v) :: es, e :: ents, r, h, hg, i => by
    obtain ⟨h1, h2, h3⟩ := h.tail
    simp only at h1 h2
    simp only [aget] at hg
    split at hg
    · rename_i hq
      obtain ⟨q1, q2⟩ := keyEq_now hk hq
      injection hg with hg
      subst hg
      refine .inr ⟨v, 0, e, rfl, ?_, rfl, by rw [h1]; exact (q2 rfl).symm, h2⟩
      simp [Instr.findNow, h1, q1]
    · rename_i hq
      obtain ⟨q1, q2⟩ := keyEq_now hk hq
      rcases aget_sound hk h3 hg (i + 1) with ⟨g1, g2⟩ | ⟨x, j, e', g1, g2, g3, g4⟩
      · exact .inl ⟨g1, by simp [Instr.findNow, h1, q1, g2]⟩
      · exact .inr ⟨x, j + 1, e', g1, by simp [Instr.findNow, h1, q1, g2]; omega, by simpa using g3, g4⟩
    · cases hg

theorem aput_sound {G : Gh} {kd : TK} {key : Value} (hk : keyOk kd key = true) {x : V} {v : Value} (hv : VR G x v) : ∀ {es es' : List (Value × V)} {ents : List MapEntry}, EntsR G es ents → aput es key x = some es' → ∀ i,
    (Instr.findNow (kindD kd) key ents i = some none ∧ es' = es ++ [(key, x)]) ∨
    ∃ j e, Instr.findNow (kindD kd) key ents i = some (some (i + j, e.val)) ∧ ents[j]? = some e ∧ e.key = key ∧ es' = es.set j (key, x)
  | [], es', ents, h, hg, i => by
    simp [aput] at hg
    have : ents = [] := List.eq_nil_of_length_eq_zero (by simpa using h.1)
    subst this
    exact .inl ⟨rfl, hg.symm⟩
  | (k, y) :: es, es', [], h, hg, i => by have := h.1; simp at this
  | (k, y) :: es, es', e :: ents, h, hg, i => by
    obtain ⟨h1, h2, h3⟩ := h.tail
    simp only at h1 h2
    simp only [aput] at hg
    split at hg
    · rename_i hq
      obtain ⟨q1, q2⟩ := keyEq_now hk hq
      injection hg with hg
      exact .inr ⟨0, e, by simp [Instr.findNow, h1, q1], rfl, by rw [h1]; exact (q2 rfl).symm, by rw [← hg]; rfl⟩
    · rename_i hq
      obtain ⟨q1, q2⟩ := keyEq_now hk hq
      split at hg
      · rename_i r' hr'
        injection hg with hg
        rcases aput_sound hk hv h3 hr' (i + 1) with ⟨g1, g2⟩ | ⟨j, e', g1, g2, g3, g4⟩
        · exact .inl ⟨by simp [Instr.findNow, h1, q1, g1], by rw [← hg, g2]; rfl⟩
        · exact .inr ⟨j + 1, e', by simp [Instr.findNow, h1, q1, g1]; omega, by simpa using g2, g3, by rw [← hg, g4]; rfl⟩
      · cases hg
    · cases hg

section
variable {P : Program} {G : Gh} {M : AMem} {w : World}

theorem snd_makeMap (hR : Rel G M w) (t : TypeId) : Snd P G w (Instr.makeMap t none) (.map M.length) (M ++ [.map []]) := by
  have hR2 := (hR.alloc (.map #[] 0)).push (.map []) w.heap.size none 0 (fun _ => ⟨hR.below.size, by simp⟩) (fun _ i o' hi hal he => by have := (hR.new i o' hi hal).2; omega)
    ⟨#[], 0, by rw [Gh.push_φ]; exact heap_alloc_new w _, rfl, fun j k x e h => by simp at h, fun j j' e e' h => by simp at h⟩
  refine ⟨.map (some w.heap.size), _, _, by simp [Instr.makeMap, newObj, Sem.run], Gh.push_le _ _ _ _, hR2, ?_⟩
  have := VR.map (G := G.push w.heap.size none 0) G.n (Nat.lt_succ_self _)
  rw [Gh.push_φ] at this
  rw [hR.n]
  exact this

def lookupA (P : Program) (t : TypeId) (M : AMem) (x ix : V) (ok : Bool) : Option V :=
  match kT P t, ix with
  | .map k e, .prim key => if keyOk (kT P k) key = true then (match zeroT P e with
    | some z => match x with
      | .prim (.map none) => some (if ok then .tup [z, .bool false] else z)
      | .map i => match M[i]? with
        | some (.map es) => match aget es key with
          | some (some v) => some (if ok then .tup [v, .bool true] else v)
          | some none => some (if ok then .tup [z, .bool false] else z)
          | none => none
        | _ => none
      | _ => none
    | none => none) else none
  | _, _ => none

theorem entsR_of {G : Gh} {w : World} {i : Nat} {es : List (Value × V)} (h : OR G w i (.map es)) : ∃ ents clock, w.heap[G.φ i]? = some (.map ents clock) ∧ EntsR G es ents.toList := by
  obtain ⟨ents, clock, h1, h2, h3, _⟩ := h
  exact ⟨ents, clock, h1, by simpa using h2, fun j k x e hx he => ⟨(h3 j k x e hx (by simpa using he)).1, (h3 j k x e hx (by simpa using he)).2.1⟩⟩

theorem constV_VR (G : Gh) (v : Value) : VR G (constV v) v := VR_constV G v

theorem snd_lookup (hR : Rel G M w) {t : TypeId} {x ix z : V} {v iv : Value} {ok : Bool} (hx : VR G x v) (hi : VR G ix iv) (h : lookupA P t M x ix ok = some z) : Snd P G w (Instr.lookup t v iv ok) z M := by
  unfold lookupA at h
  split at h
  · rename_i k e key hk
    split at h
    · rename_i hkey
      split at h
      · rename_i z0 hz
        obtain ⟨inf, zv, hinf, hzv, rfl⟩ := zeroT_some hz
        have hu := kT_map hk
        have hku := kT_kindD hkey
        have hiv : key = iv := by cases hi; rfl
        subst hiv
        have hck : ∀ b, (Instr.checkKey b 10000 k key).run P w = .ok () w := fun b => run_checkKey hku (isKey_of hkey) b 9999
        have pair : ∀ {x : V} {u : Value} (b : Bool), VR G x u → VR G (.tup [x, .bool b]) (.tuple #[u, .bool b]) := by
          intro x u b hx
          refine .tup _ _ rfl (fun j y q hy hq => ?_)
          match j, hy, hq with
          | 0, hy, hq => simp at hy hq; subst hy; subst hq; exact hx
          | 1, hy, hq => simp at hy hq; subst hy; subst hq; exact .prim _
          | j + 2, hy, hq => simp at hy
        split at h
        · injection h with h; subst h
          cases hx
          have hrun : (Instr.lookup t (.map none) key ok).run P w = .ok (if ok then .tuple #[zv, .bool false] else zv) w := by
            have hfk : (Instr.findKey k key []).run P w = .ok none w := run_findKey hku rfl
            cases ok <;> simp [Instr.lookup, run_underlying hu, hck, hfk, zeroValue, typeInfo, hinf, hzv]
          refine .pure hR hrun ?_
          cases ok
          · exact VR_constV G zv
          · exact pair false (VR_constV G zv)
        · rename_i i
          split at h
          · rename_i es hM
            obtain ⟨ents, clock, hh, hE⟩ := entsR_of (hR.obj i _ hM)
            cases hx
            split at h
            · rename_i val hg
              injection h with h; subst h
              rcases aget_sound hkey hE hg 0 with ⟨h1, _⟩ | ⟨x, j, e', h1, h2, h3, h4, h5⟩
              · cases h1
              · injection h1 with h1; subst h1
                have hfk := run_findKey (P := P) (w := w) hku h2
                have hrun : (Instr.lookup t (.map (some (G.φ i))) key ok).run P w = .ok (if ok then .tuple #[e'.val, .bool true] else e'.val) w := by
                  cases ok <;> simp [Instr.lookup, run_underlying hu, Go.MapKept.run_getObj_map hh, hck, hfk]
                refine .pure hR hrun ?_
                cases ok
                · exact h5
                · exact pair true h5
            · rename_i hg
              injection h with h; subst h
              rcases aget_sound hkey hE hg 0 with ⟨_, h2⟩ | ⟨x, j, e', h1, _⟩
              · have hfk := run_findKey (P := P) (w := w) hku h2
                have hrun : (Instr.lookup t (.map (some (G.φ i))) key ok).run P w = .ok (if ok then .tuple #[zv, .bool false] else zv) w := by
                  cases ok <;> simp [Instr.lookup, run_underlying hu, Go.MapKept.run_getObj_map hh, hck, hfk, zeroValue, typeInfo, hinf, hzv]
                refine .pure hR hrun ?_
                cases ok
                · exact VR_constV G zv
                · exact pair false (VR_constV G zv)
              · cases h1
            · cases h
          · cases h
        · cases h
      · cases h
    · cases h
  · cases h

def mapPutA (P : Program) (t : TypeId) (M : AMem) (x ix v : V) : Option AMem :=
  match kT P t, ix, x with
  | .map k e, .prim key, .map i => if keyOk (kT P k) key = true then (match M[i]? with
      | some (.map es) => match aput es key v with
        | some es' => some (M.set i (.map es'))
        | none => none
      | _ => none) else none
  | _, _, _ => none

theorem snd_mapPut (hR : Rel G M w) {t : TypeId} {x ix y : V} {xv iv v : Value} (hx : VR G x xv) (hi : VR G ix iv) (hv : VR G y v) {M' : AMem} (h : mapPutA P t M x ix y = some M') :
    ∃ w', (Instr.mapUpdate t xv iv v).run P w = .ok () w' ∧ Rel G M' w' := by
  unfold mapPutA at h
  split at h
  · rename_i k e key i hk
    split at h
    · rename_i hkey
      split at h
      · rename_i es hM
        split at h
        · rename_i es' hput
          injection h with h; subst h
          have hu := kT_map hk
          have hku := kT_kindD hkey
          have hiv : key = iv := by cases hi; rfl
          subst hiv
          cases hx
          obtain ⟨ents, clock, hh, h2, h3, h4⟩ := hR.obj i _ hM
          have hE : EntsR G es ents.toList := ⟨by simpa using h2, fun j k x e hx he => ⟨(h3 j k x e hx (by simpa using he)).1, (h3 j k x e hx (by simpa using he)).2.1⟩⟩
          have hck : (Instr.checkKey false 10000 k key).run P w = .ok () w := run_checkKey hku (isKey_of hkey) false 9999
          have fin : ∀ (ents' : Array MapEntry) (clock' : Nat), (∃ hlen : ents'.size = es'.length, (∀ (j : Nat) (k : Value) (x : V) (e : MapEntry), es'[j]? = some (k, x) → ents'[j]? = some e → e.key = k ∧ VR G x e.val ∧ e.born < clock') ∧
              (∀ (j j' : Nat) (e e' : MapEntry), ents'[j]? = some e → ents'[j']? = some e' → e.born = e'.born → j = j')) → Rel G (M.set i (.map es')) { w with heap := w.heap.setIfInBounds (G.φ i) (.map ents' clock') } := by
            intro ents' clock' ⟨q1, q2, q3⟩
            obtain ⟨r1, r2⟩ := heap_set (o' := .map ents' clock') hh
            exact hR.setObj hM trivial (by simp) ⟨rfl, rfl, rfl⟩ (fun k hk _ => r2 k hk) (fun q u hq => by
              have := hR.imm _ _ _ hq
              simp [World.cell?, hh] at this) ⟨ents', clock', r1, q1, q2, q3⟩
          rcases aput_sound hkey hv hE hput 0 with ⟨g1, rfl⟩ | ⟨j, e', g1, g2, g3, rfl⟩
          · have hfk := run_findKey (P := P) (w := w) hku g1
            refine ⟨_, (by simp [Instr.mapUpdate, run_underlying hu, Go.MapKept.run_getObj_map hh, hck, hfk, Go.MapKept.run_setObj_map _ hh] : _ = Result.ok () { w with heap := w.heap.setIfInBounds (G.φ i) (.map (ents.push { key, val := v, born := clock }) (clock + 1)) }), fin _ _ ⟨by simp [h2], fun j k x e hx he => ?_, fun j j' e e' he he' hb => ?_⟩⟩
            · rw [Array.getElem?_push] at he
              rw [List.getElem?_append] at hx
              split at he
              · rename_i hj
                injection he with he; subst he
                rw [if_neg (by omega)] at hx
                have : j - es.length = 0 := by omega
                rw [this] at hx
                simp at hx
                obtain ⟨rfl, rfl⟩ := hx
                exact ⟨rfl, hv, Nat.lt_succ_self _⟩
              · rename_i hj
                have hlt := (Array.getElem?_eq_some_iff.1 he).1
                rw [if_pos (by omega)] at hx
                obtain ⟨p1, p2, p3⟩ := h3 j k x e hx he
                exact ⟨p1, p2, Nat.lt_succ_of_lt p3⟩
            · have hlt : ∀ (j : Nat) (e : MapEntry), ents[j]? = some e → e.born < clock := by
                intro j e he
                have hj := (Array.getElem?_eq_some_iff.1 he).1
                have : j < es.length := by omega
                obtain ⟨p, hp⟩ : ∃ p, es[j]? = some p := ⟨es[j], List.getElem?_eq_getElem this⟩
                exact (h3 j p.1 p.2 e hp he).2.2
              rw [Array.getElem?_push] at he he'
              split at he <;> split at he'
              · omega
              · injection he with he; subst he
                have := hlt _ _ he'
                simp at hb
                omega
              · injection he' with he'; subst he'
                have := hlt _ _ he
                simp at hb
                omega
              · exact h4 j j' e e' he he' hb
          · have hfk := run_findKey (P := P) (w := w) hku g1
            rw [Nat.zero_add] at hfk
            have g2' : ents[j]? = some e' := by simpa using g2
            have hks : (Instr.keyThatStays key key).run P w = .ok key w := run_keyThatStays (isKey_of hkey)
            have hold : ((ents[j]?).map (·.key)).getD key = key := by rw [g2']; exact g3
            refine ⟨_, (by simp [Instr.mapUpdate, run_underlying hu, Go.MapKept.run_getObj_map hh, hck, hfk, hold, hks, Go.MapKept.run_setObj_map _ hh] : _ = Result.ok () { w with heap := w.heap.setIfInBounds (G.φ i) (.map (ents.modify j fun e => { e with key := key, val := v }) clock) }), fin _ _ ⟨by simp [h2], fun j' k x e hx he => ?_, fun j1 j2 e1 e2 he1 he2 hb => ?_⟩⟩
            · rw [Array.getElem?_modify] at he
              split at he
              · rename_i hj
                subst hj
                rw [g2'] at he
                simp at he
                rw [List.getElem?_set_self (by have := (Array.getElem?_eq_some_iff.1 g2').1; omega)] at hx
                injection hx with hx
                injection hx with e1 e2
                subst e1; subst e2; subst he
                have hj := (Array.getElem?_eq_some_iff.1 g2').1
                obtain ⟨p, hp⟩ : ∃ p, es[j]? = some p := ⟨es[j], List.getElem?_eq_getElem (by omega)⟩
                exact ⟨rfl, hv, (h3 j p.1 p.2 e' hp g2').2.2⟩
              · rename_i hj
                rw [List.getElem?_set_ne hj] at hx
                exact h3 j' k x e hx he
            · have back : ∀ (j' : Nat) (e1 : MapEntry), (ents.modify j fun e => { e with key := key, val := v })[j']? = some e1 → ∃ e0 : MapEntry, ents[j']? = some e0 ∧ e0.born = e1.born := by
                intro j' e1 he
                rw [Array.getElem?_modify] at he
                split at he
                · rename_i hj
                  subst hj
                  rw [g2'] at he
                  simp at he
                  exact ⟨e', g2', by rw [← he]⟩
                · exact ⟨e1, he, rfl⟩
              obtain ⟨a1, b1, c1⟩ := back j1 e1 he1
              obtain ⟨a2, b2, c2⟩ := back j2 e2 he2
              exact h4 j1 j2 a1 a2 b1 b2 (by omega)
        · cases h
      · cases h
    · cases h
  · cases h

/-! #### make([]T, n), T of one cell -/
def makeSliceA (P : Program) (t : TypeId) (n c : V) : Option (V × V × Nat) :=
  match kT P t, n, c with
  | .slice e, .prim (.int _ n), .prim (.int _ c) => if 0 ≤ n ∧ n = c ∧ n ≤ 1073741824 ∧ szT P e = 1 ∧ byT P e ≤ 2048 then (match zeroT P e with
      | some z => match z.cells with
        | [z1] => some (z1, z, n.toNat)
        | _ => none
      | none => none) else none
  | _, _, _ => none

theorem snd_makeSlice (hR : Rel G M w) {t : TypeId} {x y z z1 : V} {xv yv : Value} {n : Nat} (hx : VR G x xv) (hy : VR G y yv) (h : makeSliceA P t x y = some (z1, z, n)) :
    Snd P G w (Instr.makeSlice t xv yv) (.arr M.length 0 n 1) (M ++ [.cells (List.replicate n z1)]) := by
  unfold makeSliceA at h
  split at h
  · rename_i e k1 n1 k2 c1 hk
    split at h
    · rename_i hc
      obtain ⟨h0, rfl, h2, h3, h4⟩ := hc
      split at h
      · rename_i z' hz
        split at h
        · rename_i zz hzz
          injection h with h
          injection h with e1 h
          injection h with e2 e3
          subst e1; subst e2; subst e3
          obtain ⟨inf, zv, hinf, hzv, rfl⟩ := zeroT_some hz
          have hu := kT_slice hk
          have hsz : inf.size = 1 := by rw [← h3]; simp [szT, hinf]
          have hby : inf.bytes = byT P e := by simp [byT, hinf]
          cases hx; cases hy
          have hrun := run_make (P := P) w t e inf zv hu hinf hzv k1 k2 n1 n1 h0 (Int.le_refl _) (by
            rw [hby]
            have h5 : (byT P e : Int) ≤ 2048 := by omega
            have := Int.mul_le_mul h5 h2 h0 (by omega)
            omega) (by omega)
          rw [hsz, Nat.mul_one] at hrun
          have hzc : zv.cells.size = 1 := by rw [← constV_cells, hzz]; rfl
          have hm : ∀ j, j < n1.toNat → (madeCells zv.cells n1.toNat)[j]? = zv.cells[0]? := by
            intro j hj
            have h00 : zv.cells[0]? = some zv.cells[0] := Array.getElem?_eq_getElem (by omega)
            rw [h00]
            simp [madeCells, hzc, hj, Nat.mod_one]
          have hR2 := hR.allocCells (List.replicate n1.toNat zz) (madeCells zv.cells n1.toNat) e (by rw [size_madeCells]; simp) (fun j x v hx hv => by
            have hj : j < n1.toNat := by
              have := (List.getElem?_eq_some_iff.1 hx).1
              simpa using this
            rw [hm j hj] at hv
            rw [List.getElem?_replicate, if_pos hj] at hx
            injection hx with hx
            subst hx
            exact constV_vr G zv 0 _ v (by rw [hzz]; rfl) hv)
          refine ⟨_, _, _, hrun, Gh.push_le _ _ _ _, hR2, ?_⟩
          have := VR.arr (G := G.push w.heap.size (some (madeCells zv.cells n1.toNat).size) 0) G.n 0 n1.toNat 1 n1.toNat _ (Nat.lt_succ_self _) (Gh.push_cap _ _ _ _) (Nat.le_refl _) (by rw [size_madeCells]; omega)
          rw [Gh.push_φ] at this
          rw [hR.n]
          exact this
        · cases h
      · cases h
    · cases h
  · cases h

end
end Go.Ax

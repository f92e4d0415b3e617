/- The abstract machine, part 5: one operation. -/
import Derived.Test.YtfpmohmhiecjfaaDoorAx4
import Derived.Laws.Strings
import Derived.Laws.Slices
import Derived.Laws.MakeOwn
import Derived.WideShapes
set_option linter.unusedVariables false
set_option linter.unusedSimpArgs false
namespace Go.Ax
open Go.RowKit

inductive Out where
  | val (v : V) (M : AMem)
  | call (f : FuncId) (args : List V)
  | bad

/-! ### Types, as far as they matter -/
inductive TK where
  | bool | int (k : IntKind) | str | ptr | slice (e : TypeId) | map (k e : TypeId) | row | func | other

def kT (P : Program) (t : TypeId) : TK :=
  match P.underlying t with
  | some .bool => .bool
  | some (.int k) => .int k
  | some .string => .str
  | some (.pointer _) => .ptr
  | some (.slice e) => .slice e
  | some (.map k e) => .map k e
  | some (.struct _) => .row
  | some (.array _ _) => .row
  | some (.func _ _ _) => .func
  | _ => .other

theorem kT_bool {P : Program} {t : TypeId} (h : kT P t = .bool) : P.underlying t = some .bool := by
  unfold kT at h; split at h <;> first | assumption | cases h
theorem kT_int {P : Program} {t : TypeId} {k : IntKind} (h : kT P t = .int k) : P.underlying t = some (.int k) := by
  unfold kT at h; split at h <;> first | (injection h with h; subst h; assumption) | cases h
theorem kT_str {P : Program} {t : TypeId} (h : kT P t = .str) : P.underlying t = some .string := by
  unfold kT at h; split at h <;> first | assumption | cases h
theorem kT_ptr {P : Program} {t : TypeId} (h : kT P t = .ptr) : ∃ e, P.underlying t = some (.pointer e) := by
  unfold kT at h; split at h <;> first | exact ⟨_, by assumption⟩ | cases h
theorem kT_slice {P : Program} {t e : TypeId} (h : kT P t = .slice e) : P.underlying t = some (.slice e) := by
  unfold kT at h; split at h <;> first | (injection h with h; subst h; assumption) | cases h
theorem kT_map {P : Program} {t k e : TypeId} (h : kT P t = .map k e) : P.underlying t = some (.map k e) := by
  unfold kT at h; split at h <;> first | (injection h with h1 h2; subst h1; subst h2; assumption) | cases h
theorem kT_func {P : Program} {t : TypeId} (h : kT P t = .func) : ∃ a b c, P.underlying t = some (.func a b c) := by
  unfold kT at h; split at h <;> first | exact ⟨_, _, _, by assumption⟩ | cases h
theorem kT_elT {P : Program} {t e : TypeId} (h : kT P t = .slice e) : elT P t = some e := by
  unfold elT; rw [kT_slice h]

/-- A struct's fields: where each begins, how many cells it has. -/
def fieldsT (P : Program) (s : TypeId) : Option (List (Nat × Nat)) :=
  match P.underlying s with
  | some (.struct fs) => some (fs.toList.map fun f => (f.offset, szT P f.type))
  | _ => none

/-! ### Soundness of what gives a value -/
def Snd (P : Program) (G : Gh) (w : World) (s : Sem Value) (x : V) (M' : AMem) : Prop :=
  ∃ val w' G', s.run P w = .ok val w' ∧ G.le G' ∧ Rel G' M' w' ∧ VR G' x val

theorem Snd.pure {P : Program} {G : Gh} {M : AMem} {w : World} (hR : Rel G M w) {s : Sem Value} {x : V} {v : Value} (hs : s.run P w = .ok v w) (hx : VR G x v) : Snd P G w s x M := ⟨v, w, G, hs, .refl G, hR, hx⟩

section
variable {P : Program} {G : Gh} {M : AMem} {w : World}

/-! #### alloc, box -/
theorem constV_vr (G : Gh) (v : Value) : ∀ (j : Nat) (x : V) (u : Value), (constV v).cells[j]? = some x → v.cells[j]? = some u → VR G x u := by
  intro j x u hx hu
  unfold constV at hx
  split at hx
  · rename_i cs
    simp only [V.cells, List.getElem?_map, Array.getElem?_toList] at hx
    simp only [Value.cells] at hu
    rw [hu] at hx
    injection hx with hx
    subst hx
    exact VR_cellV G u
  · rename_i h
    have hv : v.cells = #[v] := by
      cases v <;> first | rfl | (exact absurd rfl (h _))
    have hc : (cellV v).cells = [cellV v] := by
      unfold cellV
      split <;> rfl
    rw [hc] at hx
    rw [hv] at hu
    cases j with
    | zero => simp at hx hu; subst hx; subst hu; exact VR_cellV G v
    | succ j => simp at hx

theorem snd_alloc (hR : Rel G M w) {t : TypeId} {z : V} (hz : zeroT P t = some z) : Snd P G w (Instr.alloc t true (.tuple #[])) (.ptr M.length 0) (M ++ [.cells z.cells]) := by
  obtain ⟨i, v, hi, hv, rfl⟩ := zeroT_some hz
  have hR2 := hR.allocCells (constV v).cells v.cells t (by rw [constV_cells]; exact Nat.le_refl _) (constV_vr G v)
  refine ⟨.pointer (some ⟨w.heap.size, 0, none⟩), _, _, ?_, Gh.push_le _ _ _ _, hR2, ?_⟩
  · simp [Instr.alloc, zeroValue, typeInfo, hi, hv, newVar, newRow]
  · have := VR.ptr (G := G.push w.heap.size (some v.cells.size) 0) G.n 0 (Nat.lt_succ_self _)
    rw [Gh.push_φ] at this
    rw [hR.n]
    exact this

theorem snd_box (hR : Rel G M w) {t : TypeId} {x : V} {v : Value} (hv : VR G x v) (hx : x.okv = true) : Snd P G w (Instr.box t v) (.ptr M.length 0) (M ++ [.cells x.cells]) := by
  obtain ⟨h1, h2, _⟩ := hv.cells hx
  have hR2 := hR.allocCells x.cells v.cells t (by omega) h2
  refine ⟨.pointer (some ⟨w.heap.size, 0, none⟩), _, _, ?_, Gh.push_le _ _ _ _, hR2, ?_⟩
  · simp [Instr.box, newVar, newRow]
  · have := VR.ptr (G := G.push w.heap.size (some v.cells.size) 0) G.n 0 (Nat.lt_succ_self _)
    rw [Gh.push_φ] at this
    rw [hR.n]
    exact this

theorem snd_boxI (hR : Rel G M w) {t : TypeId} {x : V} {v : Value} (hv : VR G x v) (hx : x.okv = true) : Snd P G w (Instr.box t v) (.pc x.cells) M := by
  obtain ⟨h1, h2, _⟩ := hv.cells hx
  obtain ⟨hle, hR2⟩ := hR.allocI v.cells t
  refine ⟨.pointer (some ⟨w.heap.size, 0, none⟩), _, _, ?_, hle, hR2, ?_⟩
  · simp [Instr.box, newVar, newRow]
  · refine .pc x.cells w.heap.size 0 (fun j => v.cells.getD j undef) (fun j hj => ?_) (fun j y hy => ?_)
    · show (if w.heap.size = w.heap.size then v.cells[0 + j]? else _) = _
      rw [if_pos rfl, Nat.zero_add, Array.getD_eq_getD_getElem?, Array.getElem?_eq_getElem (by omega)]
      rfl
    · have hj := (List.getElem?_eq_some_iff.1 hy).1
      refine (h2 j y _ hy ?_).mono hle
      rw [Array.getD_eq_getD_getElem?, Array.getElem?_eq_getElem (by omega)]
      rfl

/-! #### Pointers -/
theorem snd_load (hR : Rel G M w) {t : TypeId} {p x : V} {v : Value} (hp : VR G p v) (h : loadA P t M p = some x) : Snd P G w (Instr.loadAt t v) x M := by
  obtain ⟨a, u, rfl, hl, hx⟩ := loadA_sound hR hp h
  exact .pure hR (by simp [Instr.loadAt, Instr.sureAddr, hl]) hx

def fieldA (P : Program) (s : TypeId) (f : Nat) (p : V) : Option V :=
  match fieldsT P s with
  | some fs => match fs[f]? with
    | some (off, size) => if 0 < size then (match p with
      | .pc cs => some (.pc (cs.drop off))
      | .ptr i o => some (.ptr i (o + off))
      | _ => none) else none
    | none => none
  | none => none

theorem snd_fieldAddr (hR : Rel G M w) {s : TypeId} {f : Nat} {p x : V} {v : Value} (hp : VR G p v) (h : fieldA P s f p = some x) : Snd P G w (Instr.fieldAt s v f) x M := by
  unfold fieldA at h
  split at h
  · rename_i fs hfs
    split at h
    · rename_i off size hf
      split at h
      · rename_i hpos
        unfold fieldsT at hfs
        split at hfs
        · rename_i fields hu
          injection hfs with hfs
          subst hfs
          rw [List.getElem?_map] at hf
          obtain ⟨fd, hfd, he⟩ := Option.map_eq_some_iff.1 hf
          injection he with he1 he2
          subst he1; subst he2
          rw [Array.getElem?_toList] at hfd
          obtain ⟨i, hi, hsz⟩ := info_of hpos
          have run : ∀ b o, (Instr.fieldAt s (.pointer (some ⟨b, o, none⟩)) f).run P w = .ok (.pointer (some ⟨b, o + fd.offset, none⟩)) w := by
            intro b o
            have hne : ¬ i.size = 0 := by omega
            simp [Instr.fieldAt, run_underlying hu, hfd, Instr.sureAddr, fieldPlace, sizeOf, typeInfo, hi, hne, Addr.add_mid]
          cases hp with
          | pc cs b o val hI hv =>
            injection h with h
            subst h
            refine .pure hR (run b o) (.pc _ b (o + fd.offset) (fun j => val (fd.offset + j)) (fun j hj => ?_) (fun j x hx => ?_))
            · rw [List.length_drop] at hj
              rw [Nat.add_assoc]
              exact hI _ (by omega)
            · rw [List.getElem?_drop] at hx
              exact hv _ x hx
          | ptr i' o hi' =>
            injection h with h
            subst h
            exact .pure hR (run _ o) (.ptr i' _ hi')
          | _ => cases h
        · cases hfs
      · cases h
    · cases h
  · cases h

def storeA (P : Program) (t : TypeId) (M : AMem) (p x : V) : Option AMem :=
  match p with
  | .ptr i off => match M[i]? with
    | some (.cells cs) => if x.okv = true ∧ x.cells.length = szT P t ∧ 0 < szT P t ∧ off + szT P t ≤ cs.length then some (M.set i (.cells (overA cs off x.cells))) else none
    | _ => none
  | _ => none

theorem snd_store (hR : Rel G M w) {t : TypeId} {p x : V} {pv v : Value} (hp : VR G p pv) (hv : VR G x v) {M' : AMem} (h : storeA P t M p x = some M') :
    ∃ w', (Instr.storeAt t pv v).run P w = .ok () w' ∧ Rel G M' w' := by
  unfold storeA at h
  split at h
  · rename_i i off
    split at h
    · rename_i cs hM
      split at h
      · rename_i hc
        injection h with h
        subst h
        obtain ⟨hok, hlen, hpos, hfit⟩ := hc
        cases hp with
        | ptr _ _ hi =>
          obtain ⟨h1, h2, h3⟩ := hv.cells hok
          obtain ⟨inf, hinf, hsz⟩ := info_of hpos
          have hl : v.cells.toList.length = x.cells.length := by simpa using h1
          obtain ⟨hth, hR2⟩ := hR.store hM off x.cells v.cells.toList hl (by omega) (by omega) (fun j y u hy hu => h2 j y u hy (by simpa using hu))
          refine ⟨_, ?_, hR2⟩
          have := run_storeCells_cells (P := P) (G.φ i) off v.cells.toList 0 w (fun j hj => by simpa using (hth j hj).1) (fun j hj => by simpa using (hth j hj).2) (fun u hu => h3 u (by simpa using hu))
          simp only [Nat.add_zero] at this
          have hsz' : v.cells.size = inf.size := by omega
          simp [Instr.storeAt, Instr.sureAddr, storeVar, sizeOf, typeInfo, hinf, hsz', this]
      · cases h
    · cases h
  · cases h

/-! #### Elements -/
def indexAddrA (P : Program) (t : TypeId) (x ix : V) : Option V :=
  match kT P t, x, ix with
  | .slice e, .list _ xs, .prim (.int _ i) => if 0 ≤ i then (match xs[i.toNat]? with
      | some y => if y.cells.length = szT P e ∧ 0 < szT P e then some (.pc y.cells) else none
      | none => none) else none
  | .slice e, .arr o off len sz, .prim (.int _ i) => if sz = szT P e ∧ 0 < sz ∧ 0 ≤ i ∧ i < len then some (.ptr o (off + i.toNat * sz)) else none
  | _, _, _ => none

theorem snd_indexAddr (hR : Rel G M w) {t : TypeId} {x ix y : V} {v iv : Value} (hx : VR G x v) (hi : VR G ix iv) (h : indexAddrA P t x ix = some y) : Snd P G w (Instr.indexAt t v iv) y M := by
  unfold indexAddrA at h
  split at h
  · rename_i e tg xs k i hk
    split at h
    · rename_i h0
      split at h
      · rename_i z hz
        split at h
        · rename_i hsz
          injection h with h
          subst h
          obtain ⟨inf, hinf, hs⟩ := info_of hsz.2
          have hlt := (List.getElem?_eq_some_iff.1 hz).1
          have hu := kT_slice hk
          cases hi
          cases hx with
          | nil => simp at hz
          | list _ _ b o cap sz val g1 g2 g3 g4 g5 g6 g7 =>
            have hsz' : sz = szT P e := by rw [← hsz.1]; exact (g3 z (List.mem_of_getElem? hz)).symm
            have hlt' : i < (xs.length : Int) := by omega
            refine .pure hR (v := .pointer (some ⟨b, o + i.toNat * sz, none⟩)) ?_ (.pc _ b _ (fun j => val (i.toNat * sz + j)) (fun j hj => ?_) (fun j q hq => ?_))
            · simp [Instr.indexAt, asIntOf, run_underlying hu, h0, hlt', sizeOf, typeInfo, hinf, hs, hsz', Addr.add_mid]
            · rw [Nat.add_assoc]
              refine g4 _ ?_
              have := g3 z (List.mem_of_getElem? hz)
              have h2 : (i.toNat + 1) * sz ≤ xs.length * sz := Nat.mul_le_mul_right _ hlt
              rw [Nat.add_mul, Nat.one_mul] at h2
              omega
            · refine g5 _ q ?_
              have hj := (List.getElem?_eq_some_iff.1 hq).1
              rw [cellsL_at g3 hz j (by rw [g3 z (List.mem_of_getElem? hz)] at hj; exact hj)]
              exact hq
        · cases h
      · cases h
    · cases h
  · rename_i e o off len sz k i hk
    split at h
    · rename_i hc
      injection h with h
      subst h
      obtain ⟨hsz, hpos, h0, hlt⟩ := hc
      obtain ⟨inf, hinf, hs⟩ := info_of (P := P) (t := e) (by omega)
      have hu := kT_slice hk
      cases hi
      cases hx with
      | arr _ _ _ _ cap c g1 g2 g3 g4 =>
        refine .pure hR (v := .pointer (some ⟨G.φ o, off + i.toNat * sz, none⟩)) ?_ (.ptr _ _ g1)
        simp [Instr.indexAt, asIntOf, run_underlying hu, h0, hlt, sizeOf, typeInfo, hinf, hs, hsz, Addr.add_mid]
      | arrNil _ _ a g1 g2 => simp at hlt; omega
    · cases h
  · cases h

/-- A byte of a string, as a number. -/
def byteAt (s : ByteArray) (n : Nat) : Int := (((s[n]?).getD 0).toNat : Int)

def indexA (P : Program) (t : TypeId) (x ix : V) : Option V :=
  match kT P t, x, ix with
  | .str, .prim (.string s), .prim (.int _ i) => if 0 ≤ i ∧ i < s.size then some (.prim (.int .u8 (byteAt s i.toNat))) else none
  | _, _, _ => none

theorem snd_index (hR : Rel G M w) {t : TypeId} {x ix y : V} {v iv : Value} (hx : VR G x v) (hi : VR G ix iv) (h : indexA P t x ix = some y) : Snd P G w (Instr.index t v iv) y M := by
  unfold indexA at h
  split at h
  · rename_i s k i hk
    split at h
    · rename_i hc
      injection h with h
      subst h
      have hu := kT_str hk
      cases hi
      cases hx
      have hlt : i.toNat < s.size := by omega
      have hs : s[i.toNat]? = some s[i.toNat] := by simp [hlt]
      refine .pure hR (v := .int .u8 (byteAt s i.toNat)) ?_ (.prim _)
      simp [Instr.index, asIntOf, run_underlying hu, hc.1, hs, byteAt]
    · cases h
  · cases h

/-! #### len -/
def lenA (P : Program) (t : TypeId) (M : AMem) (x : V) : Option V :=
  match kT P t, x with
  | .slice _, .list _ xs => some (.int xs.length)
  | .slice _, .arr _ _ len _ => some (.int len)
  | .str, .prim (.string s) => some (.int s.size)
  | .map _ _, .prim (.map none) => some (.int 0)
  | .map _ _, .map i => match M[i]? with
    | some (.map es) => some (.int es.length)
    | _ => none
  | _, _ => none

theorem snd_len (hR : Rel G M w) {t ty : TypeId} {x y : V} {v : Value} (hx : VR G x v) (h : lenA P t M x = some y) : Snd P G w (Builtin.len_ #[t] ty #[v]) y M := by
  unfold lenA at h
  split at h
  · rename_i e tg xs hk
    injection h with h; subst h
    have hu := kT_slice hk
    cases hx with
    | nil _ a cap => exact .pure hR (v := .int .i64 0) (by simp [Builtin.len_, run_underlying hu, goInt]) (.prim _)
    | list _ _ b o cap sz val => exact .pure hR (v := .int .i64 xs.length) (by simp [Builtin.len_, run_underlying hu, goInt]) (.prim _)
  · rename_i e i off len sz hk
    injection h with h; subst h
    have hu := kT_slice hk
    cases hx with
    | arr => exact .pure hR (v := .int .i64 len) (by simp [Builtin.len_, run_underlying hu, goInt]) (.prim _)
    | arrNil => exact .pure hR (v := .int .i64 0) (by simp [Builtin.len_, run_underlying hu, goInt]) (.prim _)
  · rename_i s hk
    injection h with h; subst h
    have hu := kT_str hk
    cases hx
    exact .pure hR (v := .int .i64 s.size) (by simp [Builtin.len_, run_underlying hu, goInt]) (.prim _)
  · rename_i k e hk
    injection h with h; subst h
    have hu := kT_map hk
    cases hx
    exact .pure hR (v := .int .i64 0) (by simp [Builtin.len_, run_underlying hu, goInt]) (.prim _)
  · rename_i k e i hk
    split at h
    · rename_i es hM
      injection h with h; subst h
      have hu := kT_map hk
      cases hx
      obtain ⟨ents, clock, h1, h2, _, _⟩ := hR.obj i _ hM
      refine .pure hR (v := .int .i64 es.length) ?_ (.prim _)
      have hg : (getObj (G.φ i)).run P w = .ok (.map ents clock) w := by simp [getObj, Sem.run, h1]
      simp [Builtin.len_, run_underlying hu, hg, goInt, h2]
    · cases h
  · cases h

end
end Go.Ax

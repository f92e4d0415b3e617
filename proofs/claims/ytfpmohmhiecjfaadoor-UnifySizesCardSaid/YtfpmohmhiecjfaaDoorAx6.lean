/- The abstract machine, part 6: more operations: arithmetic, strings, slices of slices, structs, maps, make. -/
import Derived.Test.YtfpmohmhiecjfaaDoorAx5
import Derived.Laws.Small
import Derived.Laws.Pointers
set_option linter.unusedVariables false
set_option linter.unusedSimpArgs false
namespace Go.Ax
open Go.RowKit

theorem bytes_eq {a b : ByteArray} (h : a.data.toList = b.data.toList) : a = b := by
  cases a; cases b
  simp only at h
  congr
  exact Array.toList_inj.1 h

/-- Are two strings one? -/
def strEq (a b : ByteArray) : Bool := decide (a.data.toList = b.data.toList)
theorem strEq_iff {a b : ByteArray} : strEq a b = true ↔ a = b := by
  unfold strEq
  constructor
  · intro h; exact bytes_eq (of_decide_eq_true h)
  · rintro rfl; simp
theorem strEq_self (a : ByteArray) : strEq a a = true := strEq_iff.2 rfl
theorem strEq_ne {a b : ByteArray} (h : a ≠ b) : strEq a b = false := by
  cases hs : strEq a b
  · rfl
  · exact absurd (strEq_iff.1 hs) h
theorem strEq_toList (a b : ByteArray) : (a.toList == b.toList) = strEq a b := by
  rw [ByteArray.toList_eq, ByteArray.toList_eq]
  unfold strEq
  rw [Bool.eq_iff_iff]
  simp

def bitsA (op : BinOp) (k : IntKind) (x y : Int) : Int :=
  match op with
  | .and => k.wrap ((BitVec.ofInt k.bits x &&& BitVec.ofInt k.bits y).toNat : Int)
  | _ => k.wrap ((BitVec.ofInt k.bits x ||| BitVec.ofInt k.bits y).toNat : Int)

def binIntA (op : BinOp) (k : IntKind) (a : Int) (k' : IntKind) (b : Int) : Option V :=
  match op with
  | .shl => if 0 ≤ b then some (.prim (.int k (k.wrap (a * 2 ^ (min b.toNat k.bits))))) else none
  | .shr => if 0 ≤ b then some (.prim (.int k (a.fdiv (2 ^ (min b.toNat k.bits))))) else none
  | .add => if k = k' then some (.prim (.int k (k.wrap (a + b)))) else none
  | .sub => if k = k' then some (.prim (.int k (k.wrap (a - b)))) else none
  | .mul => if k = k' then some (.prim (.int k (k.wrap (a * b)))) else none
  | .quo => if k = k' ∧ b ≠ 0 then some (.prim (.int k (k.wrap (a.tdiv b)))) else none
  | .rem => if k = k' ∧ b ≠ 0 then some (.prim (.int k (a.tmod b))) else none
  | .and => if k = k' then some (.prim (.int k (bitsA .and k a b))) else none
  | .or => if k = k' then some (.prim (.int k (bitsA .or k a b))) else none
  | .eql => if k = k' then some (.bool (decide (a = b))) else none
  | .neq => if k = k' then some (.bool (!decide (a = b))) else none
  | .lss => if k = k' then some (.bool (decide (a < b))) else none
  | .leq => if k = k' then some (.bool (decide (a ≤ b))) else none
  | .gtr => if k = k' then some (.bool (decide (b < a))) else none
  | .geq => if k = k' then some (.bool (decide (b ≤ a))) else none
  | _ => none

def binStrA (op : BinOp) (a b : ByteArray) : Option V :=
  match op with
  | .eql => some (.bool (strEq a b))
  | .neq => some (.bool (!strEq a b))
  | .add => if a.size + b.size ≤ 9223372036854775807 then some (.str (a ++ b)) else none
  | _ => none

def eqBoolA (op : BinOp) (x : Bool) : Option V :=
  match op with
  | .eql => some (.bool x)
  | .neq => some (.bool !x)
  | _ => none

def binA (P : Program) (op : BinOp) (t : TypeId) (x y : V) : Option V :=
  match x, y with
  | .prim (.int k a), .prim (.int k' b) => binIntA op k a k' b
  | .prim (.string a), .prim (.string b) => binStrA op a b
  | .prim (.bool a), .prim (.bool b) => match kT P t with
    | .bool => eqBoolA op (decide (a = b))
    | _ => none
  | .prim (.pointer none), .prim (.pointer none) => match kT P t with
    | .ptr => eqBoolA op true
    | _ => none
  | .ptr _ _, .prim (.pointer none) => match kT P t with
    | .ptr => eqBoolA op false
    | _ => none
  | _, _ => none

section
variable {P : Program} {G : Gh} {M : AMem} {w : World}

theorem snd_binInt (hR : Rel G M w) {op : BinOp} {t : TypeId} {x y : Operand} {k k' : IntKind} {a b : Int} {z : V} (h : binIntA op k a k' b = some z) :
    Snd P G w (do eqGuard op t x y (.int k a) (.int k' b); binOp op t (.int k a) (.int k' b)) z M := by
  have hg : eqGuard op t x y (.int k a) (.int k' b) = pure () := eqGuard_at_int op t x y (.int k' b) k a
  rw [hg]
  change Snd P G w (binOp op t (.int k a) (.int k' b)) z M
  unfold binIntA at h
  split at h
  · split at h
    · rename_i h0
      injection h with h; subst h
      have : ¬ b < 0 := by omega
      exact .pure hR (v := .int k (k.wrap (a * 2 ^ (min b.toNat k.bits)))) (by simp [binOp_shl, Op.shift, this]) (.prim _)
    · cases h
  · split at h
    · rename_i h0
      injection h with h; subst h
      have : ¬ b < 0 := by omega
      exact .pure hR (v := .int k (a.fdiv (2 ^ (min b.toNat k.bits)))) (by simp [binOp_shr, Op.shift, this]) (.prim _)
    · cases h
  · split at h
    · rename_i h0
      injection h with h; subst h; subst h0
      exact .pure hR (by simp only [binOp_add, Op.intArith, Sem.run_pure]) (.prim _)
    · cases h
  · split at h
    · rename_i h0
      injection h with h; subst h; subst h0
      exact .pure hR (by simp only [binOp_sub, Op.intArith, Sem.run_pure]) (.prim _)
    · cases h
  · split at h
    · rename_i h0
      injection h with h; subst h; subst h0
      exact .pure hR (by simp only [binOp_mul, Op.intArith, Sem.run_pure]) (.prim _)
    · cases h
  · split at h
    · rename_i h0
      obtain ⟨h0, h1⟩ := h0
      injection h with h; subst h; subst h0
      exact .pure hR (by simp only [binOp_quo, Op.intDiv, h1, if_false, Sem.run_pure]) (.prim _)
    · cases h
  · split at h
    · rename_i h0
      obtain ⟨h0, h1⟩ := h0
      injection h with h; subst h; subst h0
      exact .pure hR (by simp only [binOp_rem, Op.intDiv, h1, if_false, Sem.run_pure]) (.prim _)
    · cases h
  · split at h
    · rename_i h0
      injection h with h; subst h; subst h0
      exact .pure hR (by simp only [binOp_and, Op.intBits, Sem.run_pure, bitsA]) (.prim _)
    · cases h
  · split at h
    · rename_i h0
      injection h with h; subst h; subst h0
      exact .pure hR (by simp only [binOp_or, Op.intBits, Sem.run_pure, bitsA]) (.prim _)
    · cases h
  · split at h
    · rename_i h0
      injection h with h; subst h; subst h0
      exact .pure hR (v := .bool (decide (a = b))) (by simp only [binOp_eql, Sem.run_pure]; rfl) (.prim _)
    · cases h
  · split at h
    · rename_i h0
      injection h with h; subst h; subst h0
      exact .pure hR (v := .bool (!decide (a = b))) (by simp only [binOp_neq, Sem.run_pure]; rfl) (.prim _)
    · cases h
  · split at h
    · rename_i h0
      injection h with h; subst h; subst h0
      exact .pure hR (by simp only [binOp_lss, Sem.run_pure]) (.prim _)
    · cases h
  · split at h
    · rename_i h0
      injection h with h; subst h; subst h0
      exact .pure hR (by simp only [binOp_leq, Sem.run_pure]) (.prim _)
    · cases h
  · split at h
    · rename_i h0
      injection h with h; subst h; subst h0
      exact .pure hR (by simp only [binOp_gtr, Sem.run_pure, GT.gt]) (.prim _)
    · cases h
  · split at h
    · rename_i h0
      injection h with h; subst h; subst h0
      exact .pure hR (by simp only [binOp_geq, Sem.run_pure, GE.ge]) (.prim _)
    · cases h
  · cases h

theorem snd_bin (hR : Rel G M w) {op : BinOp} {t : TypeId} {x y : Operand} {p q z : V} {u v : Value} (hp : VR G p u) (hq : VR G q v) (h : binA P op t p q = some z) :
    Snd P G w (do eqGuard op t x y u v; binOp op t u v) z M := by
  unfold binA at h
  split at h
  · cases hp; cases hq
    exact snd_binInt hR h
  · rename_i a b
    cases hp; cases hq
    rw [eqGuard_at_string op t x y (.string b) a]
    change Snd P G w (binOp op t (.string a) (.string b)) z M
    unfold binStrA at h
    split at h
    · injection h with h; subst h
      exact .pure hR (by simp only [binOp_string_eql, strEq_toList, Sem.run_pure]) (.prim _)
    · injection h with h; subst h
      exact .pure hR (by simp only [binOp_string_neq, strEq_toList, Sem.run_pure]) (.prim _)
    · split at h
      · rename_i hle
        injection h with h; subst h
        have : ¬ (9223372036854775807 < ((a.size : Int) + (b.size : Int))) := by omega
        exact .pure hR (v := .string (a ++ b)) (by simp [binOp, Op.stringOp, this]) (.prim _)
      · cases h
    · cases h
  · rename_i a b
    split at h
    · rename_i hk
      have hu := kT_bool hk
      cases hp; cases hq
      rw [eqGuard_at_bool op t x y (.bool b) a]
      change Snd P G w (binOp op t (.bool a) (.bool b)) z M
      unfold eqBoolA at h
      split at h
      · injection h with h; subst h
        exact .pure hR (v := .bool (decide (a = b))) (by rw [run_eql_bool w t a b hu]; cases a <;> cases b <;> rfl) (.prim _)
      · injection h with h; subst h
        exact .pure hR (v := .bool (!decide (a = b))) (by rw [run_neq_bool w t a b hu]; cases a <;> cases b <;> rfl) (.prim _)
      · cases h
    · cases h
  · split at h
    · rename_i hk
      obtain ⟨e, hu⟩ := kT_ptr hk
      cases hp; cases hq
      rw [eqGuard_at_pointer op t x y _ _]
      change Snd P G w (binOp op t (.pointer none) (.pointer none)) z M
      have hu' : P.underlying t = some (.pointer (P.pointee t)) := by rw [hu]; simp [Program.pointee, hu]
      unfold eqBoolA at h
      split at h
      · injection h with h; subst h
        exact .pure hR (v := .bool true) (by rw [run_eql_pointer_nil w t _ hu']; rfl) (.prim _)
      · injection h with h; subst h
        exact .pure hR (v := .bool (!true)) (by rw [run_neq_pointer_nil w t _ hu']; rfl) (.prim _)
      · cases h
    · cases h
  · rename_i i off
    split at h
    · rename_i hk
      obtain ⟨e, hu⟩ := kT_ptr hk
      cases hq
      cases hp
      rw [eqGuard_at_pointer op t x y _ _]
      change Snd P G w (binOp op t (.pointer (some ⟨G.φ i, off, none⟩)) (.pointer none)) z M
      have hu' : P.underlying t = some (.pointer (P.pointee t)) := by rw [hu]; simp [Program.pointee, hu]
      unfold eqBoolA at h
      split at h
      · injection h with h; subst h
        exact .pure hR (v := .bool false) (by rw [run_eql_pointer_nil w t _ hu']; rfl) (.prim _)
      · injection h with h; subst h
        exact .pure hR (v := .bool (!false)) (by rw [run_neq_pointer_nil w t _ hu']; rfl) (.prim _)
      · cases h
    · cases h
  · cases h

def unA (op : UnOp) (x : V) : Option V :=
  match op, x with
  | .not, .prim (.bool b) => some (.bool !b)
  | .neg, .prim (.int k n) => some (.prim (.int k (k.wrap (0 - n))))
  | _, _ => none

theorem snd_un (hR : Rel G M w) {op : UnOp} {x z : V} {v : Value} (hx : VR G x v) (h : unA op x = some z) : Snd P G w (Op.unary op v) z M := by
  unfold unA at h
  split at h
  · injection h with h; subst h
    cases hx
    exact .pure hR (by simp only [Op.unary, Sem.run_pure]) (.prim _)
  · injection h with h; subst h
    cases hx
    exact .pure hR (by simp only [Op.unary, Op.intArith, Sem.run_pure]) (.prim _)
  · cases h

def convA (P : Program) (src dst : TypeId) (x : V) : Option V :=
  match x, kT P dst, kT P src with
  | .prim (.int _ n), .int k, .int _ => some (.prim (.int k (k.wrap n)))
  | _, _, _ => none

theorem snd_conv (hR : Rel G M w) {src dst : TypeId} {x z : V} {v : Value} (hx : VR G x v) (h : convA P src dst x = some z) : Snd P G w (convert src dst v) z M := by
  unfold convA at h
  split at h
  · rename_i k0 n k k1 hd hs
    injection h with h; subst h
    cases hx
    exact .pure hR (v := .int k (k.wrap n)) (by simp [convert, run_underlying (kT_int hs), run_underlying (kT_int hd), Conv.intToInt]) (.prim _)
  · cases h

def extractA (x : V) (i : Nat) : Option V :=
  match x with
  | .tup vs => vs[i]?
  | _ => none

theorem snd_extract (hR : Rel G M w) {x z : V} {i : Nat} {v : Value} (hx : VR G x v) (h : extractA x i = some z) : Snd P G w (Instr.extract v i) z M := by
  unfold extractA at h
  split at h
  · cases hx with
    | tup cs a hn hv =>
      have hi := (List.getElem?_eq_some_iff.1 h).1
      have hia : a[i]? = some a[i] := Array.getElem?_eq_getElem (by omega)
      exact .pure hR (v := a[i]) (by simp [Instr.extract, hia]) (hv i z _ h hia)
  · cases h

/-! #### Structs by value -/
def partA (P : Program) (t : TypeId) (cs : List V) (off : Nat) : Option V :=
  match kT P t with
  | .row => if off + szT P t ≤ cs.length ∧ 0 < szT P t then some (.agg ((cs.drop off).take (szT P t))) else none
  | .other => none
  | _ => cs[off]?

def fieldTypeT (P : Program) (s : TypeId) (f : Nat) : Option (Nat × TypeId) :=
  match P.underlying s with
  | some (.struct fs) => (fs[f]?).map fun f => (f.offset, f.type)
  | _ => none

def fieldVA (P : Program) (s : TypeId) (f : Nat) (x : V) : Option V :=
  match fieldTypeT P s f, x with
  | some (off, t), .agg cs => partA P t cs off
  | _, _ => none

theorem kT_tkT {P : Program} {t : TypeId} {b : Bool} (h : kT P t = .row ∧ b = true ∨ (kT P t ≠ .row ∧ kT P t ≠ .other ∧ b = false)) : tkT P t = some b := by
  unfold tkT
  unfold kT at h
  cases hu : P.underlying t with
  | none => simp [hu] at h
  | some d => cases d <;> simp_all

theorem snd_part (hR : Rel G M w) {t : TypeId} {cs : List V} {a : Array Value} (hn : a.size = cs.length) (hv : ∀ (j : Nat) (x : V) (v : Value), cs[j]? = some x → a[j]? = some v → VR G x v) {off : Nat} {z : V} (h : partA P t cs off = some z) :
    Snd P G w (part t a off) z M := by
  unfold partA at h
  split at h
  · rename_i hk
    split at h
    · rename_i hle
      injection h with h; subst h
      obtain ⟨i, hi, hs⟩ := info_of hle.2
      refine .pure hR (v := .agg (a.extract off (off + szT P t))) ?_ (.agg _ _ ?_ ?_)
      · simp [part, run_isAgg (kT_tkT (.inl ⟨hk, rfl⟩)), sizeOf, typeInfo, hi, hs]
      · simp; omega
      · intro j x v hx hu
        rw [List.getElem?_take] at hx
        split at hx
        · rw [List.getElem?_drop] at hx
          rw [Array.getElem?_extract] at hu
          split at hu
          · exact hv _ x v hx hu
          · cases hu
        · cases hx
    · cases h
  · cases h
  · rename_i h1 h2
    have hi := (List.getElem?_eq_some_iff.1 h).1
    have hia : a[off]? = some a[off] := Array.getElem?_eq_getElem (by omega)
    exact .pure hR (v := a[off]) (by simp [part, run_isAgg (kT_tkT (.inr ⟨h1, h2, rfl⟩)), hia]) (hv off z _ h hia)

theorem snd_field (hR : Rel G M w) {s : TypeId} {f : Nat} {x z : V} {v : Value} (hx : VR G x v) (h : fieldVA P s f x = some z) : Snd P G w (Instr.field s v f) z M := by
  unfold fieldVA at h
  split at h
  · rename_i off t cs hf
    unfold fieldTypeT at hf
    split at hf
    · rename_i fields hu
      obtain ⟨fd, hfd, he⟩ := Option.map_eq_some_iff.1 hf
      injection he with he1 he2
      subst he1; subst he2
      cases hx with
      | agg _ a hn hv =>
        obtain ⟨val, w', G', h1, h2, h3, h4⟩ := snd_part hR hn hv h
        exact ⟨val, w', G', by simp [Instr.field, run_underlying hu, hfd, asAgg, h1], h2, h3, h4⟩
    · cases hf
  · cases h

/-- A struct's cells with parts put in. -/
def fillA (places : List (Nat × Nat)) : List V → List (Nat × V) → Option (List V)
  | cs, [] => some cs
  | cs, (i, v) :: rest => match places[i]? with
    | some (off, size) => if v.okv = true ∧ v.cells.length = size ∧ off + size ≤ cs.length then fillA places (overA cs off v.cells) rest else none
    | none => none

def buildA (P : Program) (t : TypeId) (parts : List (Nat × V)) : Option V :=
  match fieldsT P t, zeroT P t with
  | some fs, some z => match fillA fs z.cells parts with
    | some cs => some (.agg cs)
    | none => none
  | _, _ => none

theorem foldl_set : ∀ (us : List Value) (off k : Nat) (a : Array Value), off + k + us.length ≤ a.size →
    ∃ a' : Array Value, (us.zipIdx k).foldl (fun cs (cj : Value × Nat) => cs.setIfInBounds (off + cj.2) cj.1) a = a' ∧ a'.size = a.size ∧ (∀ j, (j < off + k ∨ off + k + us.length ≤ j) → a'[j]? = a[j]?) ∧ ∀ j, j < us.length → a'[off + k + j]? = us[j]?
  | [], off, k, a, _ => ⟨a, rfl, rfl, fun _ _ => rfl, fun j hj => by simp at hj⟩
  | u :: us, off, k, a, h => by
    simp only [List.length_cons] at h
    obtain ⟨a', h1, h2, h3, h4⟩ := foldl_set us off (k + 1) (a.setIfInBounds (off + k) u) (by simp; omega)
    refine ⟨a', by simpa using h1, by rw [h2]; simp, fun j hj => ?_, fun j hj => ?_⟩
    · simp only [List.length_cons] at hj
      rw [h3 j (by omega), Array.getElem?_setIfInBounds_ne (by omega)]
    · cases j with
      | zero =>
        rw [Nat.add_zero, h3 _ (by omega), Array.getElem?_setIfInBounds_self_of_lt (by omega)]
        rfl
      | succ j =>
        simp only [List.length_cons] at hj
        have := h4 j (by omega)
        rw [show off + (k + 1) + j = off + k + (j + 1) by omega] at this
        rw [this]
        rfl

theorem fill_sound {places : List (Nat × Nat)} {pf : Nat → Option (Nat × Nat)} (hpf : ∀ i, pf i = places[i]?) : ∀ {parts : List (Nat × V)} {vals : List (Nat × Value)} {cs cs' : List V} {a : Array Value}, a.size = cs.length → (∀ (j : Nat) (x : V) (v : Value), cs[j]? = some x → a[j]? = some v → VR G x v) →
    parts.length = vals.length → (∀ (j : Nat) (p : Nat × V) (q : Nat × Value), parts[j]? = some p → vals[j]? = some q → p.1 = q.1 ∧ VR G p.2 q.2) → fillA places cs parts = some cs' →
    ∃ a', Instr.fill pf a vals = some a' ∧ a'.size = cs'.length ∧ ∀ (j : Nat) (x : V) (v : Value), cs'[j]? = some x → a'[j]? = some v → VR G x v
  | [], vals, cs, cs', a, hn, hv, hl, hp, h => by
    simp [fillA] at h
    subst h
    cases vals with
    | nil => exact ⟨a, rfl, hn, hv⟩
    | cons _ _ => simp at hl
  | (i, x) :: parts, vals, cs, cs', a, hn, hv, hl, hp, h => by
    cases vals with
    | nil => simp at hl
    | cons q vals =>
      obtain ⟨i', u⟩ := q
      obtain ⟨h1, h2⟩ := hp 0 _ _ rfl rfl
      simp only at h1 h2
      subst h1
      simp only [fillA] at h
      split at h
      · rename_i off size hpl
        split at h
        · rename_i hc
          obtain ⟨hok, hlen, hfit⟩ := hc
          obtain ⟨c1, c2, c3⟩ := h2.cells hok
          obtain ⟨a1, f1, f2, f3, f4⟩ := foldl_set u.cells.toList off 0 a (by simp; omega)
          have hfit' : off + x.cells.length ≤ cs.length := by omega
          obtain ⟨a', g1, g2, g3⟩ := fill_sound hpf (parts := parts) (vals := vals) (cs := overA cs off x.cells) (a := a1) (by rw [overA_length hfit', f2, hn]) (by
            intro j y v hy hv'
            rw [overA_at hfit'] at hy
            split at hy
            · rename_i hj
              have := f4 (j - off) (by simp; omega)
              rw [show off + 0 + (j - off) = j by omega] at this
              rw [this] at hv'
              exact c2 _ y v hy (by simpa using hv')
            · rename_i hj
              rw [f3 j (by simp; omega)] at hv'
              exact hv j y v hy hv') (by simpa using hl) (fun j p q hp' hq => hp (j + 1) p q (by simpa using hp') (by simpa using hq)) h
          refine ⟨a', ?_, g2, g3⟩
          unfold Instr.fill
          rw [hpf i, hpl]
          simp only
          rw [if_neg (by simp; constructor <;> omega)]
          rw [← g1]
          congr 1
          rw [← f1, ← Array.foldl_toList, Array.toList_zipIdx]
        · cases h
      · cases h

theorem run_mapM_places {w : World} : ∀ (fs : List Field) , (∀ f ∈ fs, 0 < szT P f.type) → (fs.mapM (fun f => do pure (f.offset, ← sizeOf f.type) : Field → Sem (Nat × Nat))).run P w = .ok (fs.map fun f => (f.offset, szT P f.type)) w
  | [], _ => by simp
  | f :: fs, h => by
    obtain ⟨i, hi, hs⟩ := info_of (h f (by simp))
    have ih := run_mapM_places (w := w) fs (fun g hg => h g (by simp [hg]))
    simp only [List.mapM_cons, Sem.run_bind, sizeOf, typeInfo, Sem.run_pure, run_program, Result.andThen_ok, hi, hs]
    simp only [sizeOf, typeInfo] at ih
    rw [ih]
    simp

theorem snd_build (hR : Rel G M w) {t : TypeId} {parts : List (Nat × V)} {vals : List (Nat × Value)} (hl : parts.length = vals.length) (hp : ∀ (j : Nat) (p : Nat × V) (q : Nat × Value), parts[j]? = some p → vals[j]? = some q → p.1 = q.1 ∧ VR G p.2 q.2) {z : V} (h : buildA P t parts = some z)
    (hpos : ∀ fs, fieldsT P t = some fs → ∀ f ∈ fs, 0 < f.2) : Snd P G w (Instr.build t vals.toArray) z M := by
  unfold buildA at h
  split at h
  · rename_i fs z0 hfs hz
    split at h
    · rename_i cs hcs
      injection h with h; subst h
      have hpos' := hpos fs hfs
      obtain ⟨i, zv, hi, hzv, rfl⟩ := zeroT_some hz
      unfold fieldsT at hfs
      split at hfs
      · rename_i fields hu
        injection hfs with hfs
        obtain ⟨a', g1, g2, g3⟩ := fill_sound (G := G) (places := fs) (pf := fun (i : Nat) => fs[i]?) (fun _ => rfl) (cs := (constV zv).cells) (a := zv.cells) (constV_cells zv).symm (constV_vr G zv) hl hp hcs
        refine .pure hR (v := .agg a') ?_ (.agg _ a' g2 g3)
        have hm := run_mapM_places (P := P) (w := w) fields.toList (fun f hf => by
          have := hpos' (f.offset, szT P f.type) (by rw [← hfs]; exact List.mem_map.2 ⟨f, hf, rfl⟩)
          exact this)
        have hm2 : (fields.mapM (fun f => do pure (f.offset, ← sizeOf f.type) : Field → Sem (Nat × Nat))).run P w = .ok fs.toArray w := by
          have : fields = fields.toList.toArray := by simp
          rw [this, List.mapM_toArray, Sem.run_map, hm, ← hfs]
          rfl
        unfold Instr.build
        simp only [Sem.run_bind, zeroValue, typeInfo, run_program, Result.andThen_ok, hi, hzv, Sem.run_pure, run_underlying hu, hm2]
        have : (fun (x : Nat) => (fs.toArray)[x]?) = fun (i : Nat) => fs[i]? := by funext x; simp
        rw [this, g1]
        simp
      · cases hfs
    · cases h
  · cases h

end
end Go.Ax

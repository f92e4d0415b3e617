/- The abstract machine, part 1: values as trees, the ghost state, what it is that a value in memory stands for a tree; the relation of memories.
   Conditions: none; plain definitions and lemmas over the given model. -/
import Derived.Below
import Derived.Orders
import Derived.Tactics
import Derived.Laws.AppendOwn
set_option linter.unusedVariables false
set_option linter.unusedSimpArgs false
namespace Go.Ax
open Go.RowKit

/-- Who may append to a slice in place: nobody need (its capacity is its length), nobody may, or the holder of a permission. -/
inductive Tag where
  | full
  | dull
  | own (i : Nat)
  deriving DecidableEq

/-- A value as a tree. -/
inductive V where
  | prim (v : Value)
  | list (t : Tag) (xs : List V)
  | agg (cs : List V)
  | tup (cs : List V)
  | pc (cs : List V)
  | ptr (i off : Nat)
  | map (i : Nat)
  | arr (i off len sz : Nat)
  | fn (f : FuncId) (caps : List V)
  | junk

abbrev V.int (n : Int) : V := .prim (.int .i64 n)
abbrev V.bool (b : Bool) : V := .prim (.bool b)
abbrev V.str (s : ByteArray) : V := .prim (.string s)

def V.cells : V → List V
  | .agg cs => cs
  | v => [v]

def cellsL (xs : List V) : List V := xs.flatMap V.cells

@[simp] theorem cellsL_nil : cellsL [] = [] := rfl
@[simp] theorem cellsL_cons (x : V) (xs : List V) : cellsL (x :: xs) = x.cells ++ cellsL xs := rfl
theorem cellsL_append (xs ys : List V) : cellsL (xs ++ ys) = cellsL xs ++ cellsL ys := by simp [cellsL]

theorem cellsL_length {sz : Nat} : ∀ {xs : List V}, (∀ x ∈ xs, x.cells.length = sz) → (cellsL xs).length = xs.length * sz
  | [], _ => by simp
  | x :: xs, h => by
    rw [cellsL_cons, List.length_append, h x (by simp), cellsL_length (fun y hy => h y (by simp [hy])), List.length_cons, Nat.add_mul, Nat.one_mul, Nat.add_comm]

theorem cellsL_at {sz : Nat} : ∀ {xs : List V} {i : Nat} {x : V}, (∀ x ∈ xs, x.cells.length = sz) → xs[i]? = some x → ∀ j, j < sz → (cellsL xs)[i * sz + j]? = x.cells[j]?
  | [], i, x, _, h, j, hj => by simp at h
  | y :: ys, 0, x, hs, h, j, hj => by
    simp at h
    subst h
    rw [cellsL_cons, Nat.zero_mul, Nat.zero_add, List.getElem?_append_left (by rw [hs y (by simp)]; exact hj)]
  | y :: ys, i + 1, x, hs, h, j, hj => by
    have hy := hs y (by simp)
    simp at h
    rw [cellsL_cons, List.getElem?_append_right (by rw [hy, Nat.add_mul, Nat.one_mul]; omega), hy]
    have e : (i + 1) * sz + j - sz = i * sz + j := by rw [Nat.add_mul, Nat.one_mul]; omega
    rw [e]
    exact cellsL_at (fun z hz => hs z (by simp [hz])) h j hj

/-- The ghost state: of each number of an abstract object its block, its capacity in cells (none: no permission), how many elements lie there; the cells that don't change any more; the world at the begin. -/
structure Gh where
  n : Nat
  φ : Nat → Nat
  cap : Nat → Option Nat
  len : Nat → Nat
  I : Nat → Nat → Option Value
  w0 : World

structure Gh.le (G G' : Gh) : Prop where
  n : G.n ≤ G'.n
  φ : ∀ i, i < G.n → G'.φ i = G.φ i
  cap : ∀ i, i < G.n → G'.cap i = G.cap i
  len : ∀ i, i < G.n → G'.len i = G.len i
  I : ∀ b o v, G.I b o = some v → G'.I b o = some v
  w0 : G'.w0 = G.w0

theorem Gh.le.refl (G : Gh) : G.le G := ⟨Nat.le_refl _, fun _ _ => rfl, fun _ _ => rfl, fun _ _ => rfl, fun _ _ _ h => h, rfl⟩
theorem Gh.le.trans {G G' G'' : Gh} (h : G.le G') (k : G'.le G'') : G.le G'' :=
  ⟨Nat.le_trans h.n k.n, fun i hi => (k.φ i (Nat.lt_of_lt_of_le hi h.n)).trans (h.φ i hi), fun i hi => (k.cap i (Nat.lt_of_lt_of_le hi h.n)).trans (h.cap i hi),
    fun i hi => (k.len i (Nat.lt_of_lt_of_le hi h.n)).trans (h.len i hi), fun b o v hv => k.I b o v (h.I b o v hv), k.w0.trans h.w0⟩

/-- What a tag says of a slice's block, place, length, capacity. -/
def TagOk (G : Gh) (t : Tag) (b o len cap sz : Nat) : Prop :=
  match t with
  | .full => cap = len
  | .dull => True
  | .own i => i < G.n ∧ match G.cap i with
    | none => cap = len
    | some c => b = G.φ i ∧ o = 0 ∧ cap * sz = c ∧ G.len i = len * sz

theorem TagOk.mono {G G' : Gh} (h : G.le G') {t : Tag} {b o len cap sz : Nat} (ht : TagOk G t b o len cap sz) : TagOk G' t b o len cap sz := by
  cases t with
  | full => exact ht
  | dull => trivial
  | own i =>
    obtain ⟨hi, ht⟩ := ht
    refine ⟨Nat.lt_of_lt_of_le hi h.n, ?_⟩
    rw [h.cap i hi, h.φ i hi, h.len i hi]
    exact ht

/-- A value stands for a tree. -/
inductive VR (G : Gh) : V → Value → Prop where
  | prim (v : Value) : VR G (.prim v) v
  | junk (v : Value) : VR G .junk v
  | agg (cs : List V) (a : Array Value) (hn : a.size = cs.length) (h : ∀ (j : Nat) (x : V) (v : Value), cs[j]? = some x → a[j]? = some v → VR G x v) : VR G (.agg cs) (.agg a)
  | tup (cs : List V) (a : Array Value) (hn : a.size = cs.length) (h : ∀ (j : Nat) (x : V) (v : Value), cs[j]? = some x → a[j]? = some v → VR G x v) : VR G (.tup cs) (.tuple a)
  | fn (f : FuncId) (cs : List V) (a : Array Value) (hn : a.size = cs.length) (h : ∀ (j : Nat) (x : V) (v : Value), cs[j]? = some x → a[j]? = some v → VR G x v) : VR G (.fn f cs) (.func (.func f) #[] a)
  | ptr (i off : Nat) (hi : i < G.n) : VR G (.ptr i off) (.pointer (some ⟨G.φ i, off, none⟩))
  | map (i : Nat) (hi : i < G.n) : VR G (.map i) (.map (some (G.φ i)))
  | arr (i off len sz cap c : Nat) (hi : i < G.n) (hc : G.cap i = some c) (hl : len ≤ cap) (hb : off + cap * sz ≤ c) : VR G (.arr i off len sz) (.slice (some ⟨G.φ i, off, none⟩) len cap)
  | arrNil (i sz : Nat) (a : Option Addr) (hi : i < G.n) (hc : G.cap i = none) : VR G (.arr i 0 0 sz) (.slice a 0 0)
  | pc (cs : List V) (b o : Nat) (val : Nat → Value) (hI : ∀ j, j < cs.length → G.I b (o + j) = some (val j)) (h : ∀ (j : Nat) (x : V), cs[j]? = some x → VR G x (val j)) : VR G (.pc cs) (.pointer (some ⟨b, o, none⟩))
  | nil (t : Tag) (a : Option Addr) (cap : Nat) (ht : t = .dull ∨ cap = 0) (hi : ∀ i, t = .own i → i < G.n ∧ G.cap i = none) : VR G (.list t []) (.slice a 0 cap)
  | list (t : Tag) (xs : List V) (b o cap sz : Nat) (val : Nat → Value) (hx : 0 < xs.length) (hz : 0 < sz) (hs : ∀ x ∈ xs, x.cells.length = sz) (hI : ∀ j, j < xs.length * sz → G.I b (o + j) = some (val j))
      (h : ∀ (j : Nat) (x : V), (cellsL xs)[j]? = some x → VR G x (val j)) (hc : xs.length ≤ cap) (ht : TagOk G t b o xs.length cap sz) : VR G (.list t xs) (.slice (some ⟨b, o, none⟩) xs.length cap)

theorem VR.mono {G G' : Gh} (h : G.le G') {x : V} {v : Value} (hv : VR G x v) : VR G' x v := by
  induction hv with
  | prim v => exact .prim v
  | junk v => exact .junk v
  | agg cs a hn _ ih => exact .agg cs a hn ih
  | tup cs a hn _ ih => exact .tup cs a hn ih
  | fn f cs a hn _ ih => exact .fn f cs a hn ih
  | ptr i off hi => rw [← h.φ i hi]; exact .ptr i off (Nat.lt_of_lt_of_le hi h.n)
  | map i hi => rw [← h.φ i hi]; exact .map i (Nat.lt_of_lt_of_le hi h.n)
  | arr i off len sz cap c hi hc hl hb => rw [← h.φ i hi]; exact .arr i off len sz cap c (Nat.lt_of_lt_of_le hi h.n) (by rw [h.cap i hi]; exact hc) hl hb
  | arrNil i sz a hi hc => exact .arrNil i sz a (Nat.lt_of_lt_of_le hi h.n) (by rw [h.cap i hi]; exact hc)
  | pc cs b o val hI _ ih => exact .pc cs b o val (fun j hj => h.I _ _ _ (hI j hj)) ih
  | nil t a cap ht hi => exact .nil t a cap ht (fun i e => ⟨Nat.lt_of_lt_of_le (hi i e).1 h.n, by rw [h.cap i (hi i e).1]; exact (hi i e).2⟩)
  | list t xs b o cap sz val hx hz hs hI _ hc ht ih => exact .list t xs b o cap sz val hx hz hs (fun j hj => h.I _ _ _ (hI j hj)) ih hc (ht.mono h)

/-! ### Weakening: nobody may append any more -/
mutual
def V.un : V → V
  | .prim v => .prim v
  | .list _ xs => .list .dull (V.unL xs)
  | .agg cs => .agg (V.unL cs)
  | .tup cs => .tup (V.unL cs)
  | .pc cs => .pc (V.unL cs)
  | .ptr i o => .ptr i o
  | .map i => .map i
  | .arr i o l s => .arr i o l s
  | .fn f cs => .fn f (V.unL cs)
  | .junk => .junk
def V.unL : List V → List V
  | [] => []
  | x :: xs => x.un :: V.unL xs
end

theorem V.unL_eq : ∀ xs : List V, V.unL xs = xs.map V.un
  | [] => rfl
  | x :: xs => by rw [V.unL, V.unL_eq xs]; rfl

theorem V.cells_un (x : V) : x.un.cells = x.cells.map V.un := by
  cases x <;> simp [V.un, V.cells, V.unL_eq]

theorem cellsL_un (xs : List V) : cellsL (V.unL xs) = (cellsL xs).map V.un := by
  rw [V.unL_eq]
  induction xs with
  | nil => rfl
  | cons x xs ih => simp [V.cells_un, ih]

theorem VR.un {G : Gh} {x : V} {v : Value} (hv : VR G x v) : VR G x.un v := by
  have lift : ∀ {cs : List V} {a : Nat → Option Value}, (∀ (j : Nat) (x : V) (v : Value), cs[j]? = some x → a j = some v → VR G x.un v) → ∀ (j : Nat) (x : V) (v : Value), (V.unL cs)[j]? = some x → a j = some v → VR G x v := by
    intro cs a h j x v hx hv
    rw [V.unL_eq, List.getElem?_map] at hx
    obtain ⟨y, hy, rfl⟩ := Option.map_eq_some_iff.1 hx
    exact h j y v hy hv
  induction hv with
  | prim v => exact .prim v
  | junk v => exact .junk v
  | agg cs a hn _ ih => exact .agg _ a (by rw [hn, V.unL_eq, List.length_map]) (lift (a := fun j => a[j]?) ih)
  | tup cs a hn _ ih => exact .tup _ a (by rw [hn, V.unL_eq, List.length_map]) (lift (a := fun j => a[j]?) ih)
  | fn f cs a hn _ ih => exact .fn f _ a (by rw [hn, V.unL_eq, List.length_map]) (lift (a := fun j => a[j]?) ih)
  | ptr i off hi => exact .ptr i off hi
  | map i hi => exact .map i hi
  | arr i off len sz cap c hi hc hl hb => exact .arr i off len sz cap c hi hc hl hb
  | arrNil i sz a hi hc => exact .arrNil i sz a hi hc
  | pc cs b o val hI _ ih =>
    refine .pc _ b o val (fun j hj => hI j (by simpa [V.unL_eq] using hj)) ?_
    intro j x hx
    rw [V.unL_eq, List.getElem?_map] at hx
    obtain ⟨y, hy, rfl⟩ := Option.map_eq_some_iff.1 hx
    exact ih j y hy
  | nil t a cap ht hi => exact .nil .dull a cap (.inl rfl) (fun i e => by cases e)
  | list t xs b o cap sz val hx hz hs hI _ hc ht ih =>
    have hl : (V.unL xs).length = xs.length := by rw [V.unL_eq, List.length_map]
    have := VR.list (G := G) .dull (V.unL xs) b o cap sz val (by omega) hz ?_ (by rw [hl]; exact hI) ?_ (by omega) trivial
    · rw [hl] at this; exact this
    · intro x hx
      rw [V.unL_eq] at hx
      obtain ⟨y, hy, rfl⟩ := List.mem_map.1 hx
      rw [V.cells_un, List.length_map]
      exact hs y hy
    · intro j x hx
      rw [cellsL_un, List.getElem?_map] at hx
      obtain ⟨y, hy, rfl⟩ := Option.map_eq_some_iff.1 hx
      exact ih j y hy

/-! ### Trees that name no object -/
mutual
def V.closed : V → Bool
  | .prim _ => true
  | .list t xs => (match t with | .own _ => false | _ => true) && V.closedL xs
  | .agg cs => V.closedL cs
  | .tup cs => V.closedL cs
  | .pc cs => V.closedL cs
  | .ptr _ _ => false
  | .map _ => false
  | .arr _ _ _ _ => false
  | .fn _ cs => V.closedL cs
  | .junk => true
def V.closedL : List V → Bool
  | [] => true
  | x :: xs => x.closed && V.closedL xs
end

theorem V.closedL_at : ∀ {xs : List V}, V.closedL xs = true → ∀ {j : Nat} {x : V}, xs[j]? = some x → x.closed = true
  | [], _, j, x, h => by simp at h
  | y :: ys, hc, 0, x, h => by
    simp [V.closedL] at hc h
    subst h
    exact hc.1
  | y :: ys, hc, j + 1, x, h => by
    simp [V.closedL] at hc h
    exact V.closedL_at hc.2 h

theorem V.closedL_append (xs ys : List V) : V.closedL (xs ++ ys) = (V.closedL xs && V.closedL ys) := by
  induction xs with
  | nil => simp [V.closedL]
  | cons x xs ih => simp [V.closedL, ih, Bool.and_assoc]

theorem V.closed_cells {x : V} (h : x.closed = true) : V.closedL x.cells = true := by
  cases x <;> simp_all [V.closed, V.cells, V.closedL]

theorem closed_cellsL : ∀ {xs : List V}, V.closedL xs = true → V.closedL (cellsL xs) = true
  | [], _ => rfl
  | x :: xs, h => by
    simp [V.closedL] at h
    rw [cellsL_cons, V.closedL_append, V.closed_cells h.1, closed_cellsL h.2]
    rfl

/-- A tree that names no object stands whatever objects there are. -/
theorem VR.closed {G G' : Gh} (hI : ∀ b o v, G.I b o = some v → G'.I b o = some v) {x : V} {v : Value} (hv : VR G x v) : x.closed = true → VR G' x v := by
  induction hv with
  | prim v => exact fun _ => .prim v
  | junk v => exact fun _ => .junk v
  | agg cs a hn _ ih => exact fun hc => .agg cs a hn fun j x v hx hv => ih j x v hx hv (V.closedL_at hc hx)
  | tup cs a hn _ ih => exact fun hc => .tup cs a hn fun j x v hx hv => ih j x v hx hv (V.closedL_at hc hx)
  | fn f cs a hn _ ih => exact fun hc => .fn f cs a hn fun j x v hx hv => ih j x v hx hv (V.closedL_at hc hx)
  | ptr i off hi => intro hc; simp [V.closed] at hc
  | map i hi => intro hc; simp [V.closed] at hc
  | arr i off len sz cap c hi h1 hl hb => intro hc; simp [V.closed] at hc
  | arrNil i sz a hi h1 => intro hc; simp [V.closed] at hc
  | pc cs b o val hI' _ ih => exact fun hc => .pc cs b o val (fun j hj => hI _ _ _ (hI' j hj)) fun j x hx => ih j x hx (V.closedL_at hc hx)
  | nil t a cap ht hi =>
    intro hc
    refine .nil t a cap ht fun i e => ?_
    subst e
    simp [V.closed] at hc
  | list t xs b o cap sz val hx hz hs hI' _ hl ht ih =>
    intro hc
    have hc' : V.closedL xs = true := by cases t <;> simp_all [V.closed]
    refine .list t xs b o cap sz val hx hz hs (fun j hj => hI _ _ _ (hI' j hj)) (fun j x hx => ih j x hx (V.closedL_at (closed_cellsL hc') hx)) hl ?_
    cases t with
    | full => exact ht
    | dull => trivial
    | own i => simp [V.closed] at hc

/-! ### Memories -/
/-- An object of the abstract memory: cells that may be written; the permission to append to a slice; a map; nothing any more; a block that was there at the begin. -/
inductive AObj where
  | cells (cs : List V)
  | tail
  | map (es : List (Value × V))
  | gone
  | fix (b : Nat) (ob : Obj)

abbrev AMem := List AObj

def AObj.alive (G : Gh) (i : Nat) : AObj → Prop
  | .cells _ => G.cap i ≠ none
  | .tail => G.cap i ≠ none
  | .map _ => True
  | .gone => False
  | .fix _ _ => False

/-- What an object says of the world. -/
def OR (G : Gh) (w : World) (i : Nat) : AObj → Prop
  | .cells cs => (G.cap i = none ∧ cs = []) ∨ ∃ a T, w.heap[G.φ i]? = some (.cells a T (0, 0)) ∧ G.cap i = some a.size ∧ cs.length ≤ a.size ∧ (∀ (j : Nat) (x : V) (v : Value), cs[j]? = some x → a[j]? = some v → VR G x v) ∧ ∀ o, G.I (G.φ i) o = none
  | .tail => ∀ c, G.cap i = some c → ∃ a T, w.heap[G.φ i]? = some (.cells a T (0, 0)) ∧ a.size = c ∧ ∀ o, G.len i ≤ o → G.I (G.φ i) o = none
  | .map es => ∃ ents clock, w.heap[G.φ i]? = some (.map ents clock) ∧ ents.size = es.length ∧ (∀ (j : Nat) (k : Value) (x : V) (e : MapEntry), es[j]? = some (k, x) → ents[j]? = some e → e.key = k ∧ VR G x e.val ∧ e.born < clock) ∧
      (∀ (j j' : Nat) (e e' : MapEntry), ents[j]? = some e → ents[j']? = some e' → e.born = e'.born → j = j')
  | .gone => True
  | .fix b ob => b < G.w0.heap.size ∧ G.w0.heap[b]? = some ob

structure Rel (G : Gh) (M : AMem) (w : World) : Prop where
  n : M.length = G.n
  below : Below G.w0.heap.size G.w0 w
  imm : ∀ b o v, G.I b o = some v → w.cell? ⟨b, o, none⟩ = some v
  new : ∀ i o, M[i]? = some o → o.alive G i → G.w0.heap.size ≤ G.φ i ∧ G.φ i < w.heap.size
  sep : ∀ i j o o', M[i]? = some o → M[j]? = some o' → o.alive G i → o'.alive G j → G.φ i = G.φ j → i = j
  obj : ∀ i o, M[i]? = some o → OR G w i o

end Go.Ax

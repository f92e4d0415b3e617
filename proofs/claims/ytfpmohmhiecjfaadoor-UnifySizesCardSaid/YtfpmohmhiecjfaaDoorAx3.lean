/- The abstract machine, part 3: how the relation of memories is kept by what is done to the world: a new block that doesn't change any more, a new object, a store, a map's change. -/
import Derived.Test.YtfpmohmhiecjfaaDoorAx2
import Derived.Deep.AppendSrc
import Derived.Deep.Upon
set_option linter.unusedVariables false
set_option linter.unusedSimpArgs false
namespace Go.Ax
open Go.RowKit

/-- Does a tree fill one cell? -/
def V.one : V → Bool
  | .prim v => v.oneCell'
  | .agg _ => false
  | .tup _ => false
  | .junk => false
  | _ => true

def V.okv : V → Bool
  | .agg cs => cs.all V.one
  | x => x.one

theorem VR.one {G : Gh} {x : V} {v : Value} (h : VR G x v) (hx : x.one = true) : v.oneCell' = true := by
  cases h <;> first | exact hx | rfl | (simp [V.one] at hx)

theorem VR.cells {G : Gh} {x : V} {v : Value} (h : VR G x v) (hx : x.okv = true) :
    v.cells.size = x.cells.length ∧ (∀ (j : Nat) (y : V) (u : Value), x.cells[j]? = some y → v.cells[j]? = some u → VR G y u) ∧ ∀ u ∈ v.cells, u.oneCell' = true := by
  have single : ∀ {x : V} {v : Value}, VR G x v → x.one = true → x.cells = [x] → v.cells = #[v] →
      v.cells.size = x.cells.length ∧ (∀ (j : Nat) (y : V) (u : Value), x.cells[j]? = some y → v.cells[j]? = some u → VR G y u) ∧ ∀ u ∈ v.cells, u.oneCell' = true := by
    intro x v h h1 hc hc'
    rw [hc, hc']
    refine ⟨rfl, ?_, ?_⟩
    · intro j y u hy hu
      cases j with
      | zero => simp at hy hu; subst hy; subst hu; exact h
      | succ j => simp at hy
    · intro u hu
      simp at hu
      subst hu
      exact h.one h1
  cases h with
  | agg cs a hn h =>
    simp only [V.cells, Value.cells]
    refine ⟨hn, h, fun u hu => ?_⟩
    obtain ⟨j, hj, rfl⟩ := Array.mem_iff_getElem.1 hu
    have hjc : j < cs.length := by omega
    refine (h j cs[j] a[j] (List.getElem?_eq_getElem hjc) (Array.getElem?_eq_getElem hj)).one ?_
    have := hx
    simp only [V.okv, List.all_eq_true] at this
    exact this _ (List.getElem_mem hjc)
  | prim v =>
    refine single (.prim v) hx rfl ?_
    cases v <;> first | rfl | (simp [V.okv, V.one, Value.oneCell'] at hx)
  | junk v => simp [V.okv, V.one] at hx
  | tup cs a hn h => simp [V.okv, V.one] at hx
  | fn f cs a hn h => exact single (.fn f cs a hn h) rfl rfl rfl
  | ptr i off hi => exact single (.ptr i off hi) rfl rfl rfl
  | map i hi => exact single (.map i hi) rfl rfl rfl
  | arr i off len sz cap c hi hc hl hb => exact single (.arr i off len sz cap c hi hc hl hb) rfl rfl rfl
  | arrNil i sz a hi hc => exact single (.arrNil i sz a hi hc) rfl rfl rfl
  | pc cs b o val hI h => exact single (.pc cs b o val hI h) rfl rfl rfl
  | nil t a cap ht hi => exact single (.nil t a cap ht hi) rfl rfl rfl
  | list t xs b o cap sz val h1 h2 h3 h4 h5 h6 h7 => exact single (.list t xs b o cap sz val h1 h2 h3 h4 h5 h6 h7) rfl rfl rfl

/-! ### The relation, kept -/
theorem OR.mono {G G' : Gh} {w w' : World} {i : Nat} {o : AObj} (h : OR G w i o) (hG : G.le G') (hi : i < G.n) (hh : o.alive G i → w'.heap[G.φ i]? = w.heap[G.φ i]?) (hI : o.alive G i → ∀ q, G.I (G.φ i) q = none → G'.I (G.φ i) q = none) : OR G' w' i o := by
  cases o with
  | cells cs =>
    rcases h with ⟨h1, h2⟩ | ⟨a, T, h1, h2, h3, h4, h5⟩
    · exact .inl ⟨by rw [hG.cap i hi]; exact h1, h2⟩
    have al : AObj.alive G i (.cells cs) := by show G.cap i ≠ none; rw [h2]; simp
    refine .inr ⟨a, T, ?_, ?_, h3, fun j x v hx hv => (h4 j x v hx hv).mono hG, fun q => ?_⟩
    · rw [hG.φ i hi, hh al]; exact h1
    · rw [hG.cap i hi]; exact h2
    · rw [hG.φ i hi]; exact hI al q (h5 q)
  | tail =>
    intro c hc
    rw [hG.cap i hi] at hc
    have al : AObj.alive G i .tail := by show G.cap i ≠ none; rw [hc]; simp
    obtain ⟨a, T, h1, h2, h3⟩ := h c hc
    rw [hG.φ i hi, hG.len i hi, hh al]
    exact ⟨a, T, h1, h2, fun q hq => hI al q (h3 q hq)⟩
  | map es =>
    obtain ⟨ents, clock, h1, h2, h3, h4⟩ := h
    refine ⟨ents, clock, ?_, h2, fun j k x e hx he => ?_, h4⟩
    · rw [hG.φ i hi, hh trivial]; exact h1
    · obtain ⟨p, q, r⟩ := h3 j k x e hx he
      exact ⟨p, q.mono hG, r⟩
  | gone => trivial
  | fix b ob => exact ⟨by rw [hG.w0]; exact h.1, by rw [hG.w0]; exact h.2⟩

theorem AObj.alive_mono {G G' : Gh} (hG : G.le G') {i : Nat} (hi : i < G.n) {o : AObj} : o.alive G' i ↔ o.alive G i := by
  cases o <;> simp [AObj.alive, hG.cap i hi]

theorem Rel.lt {G : Gh} {M : AMem} {w : World} (hR : Rel G M w) {i : Nat} {o : AObj} (h : M[i]? = some o) : i < G.n := by
  rw [← hR.n]
  exact (List.getElem?_eq_some_iff.1 h).1

theorem Rel.I_lt {G : Gh} {M : AMem} {w : World} (hR : Rel G M w) {b o : Nat} {v : Value} (h : G.I b o = some v) : b < w.heap.size :=
  World.block_lt_of_cell? w _ (hR.imm b o v h)

theorem Rel.I_none {G : Gh} {M : AMem} {w : World} (hR : Rel G M w) (b o : Nat) (h : w.heap.size ≤ b) : G.I b o = none := by
  cases hv : G.I b o with
  | none => rfl
  | some v =>
    have := hR.I_lt hv
    omega

theorem Rel.drew {G : Gh} {M : AMem} {w : World} (hR : Rel G M w) : Rel G M w.drew :=
  ⟨hR.n, hR.below.drew, fun b o v h => by rw [World.cell?_drew]; exact hR.imm b o v h, hR.new, hR.sep, fun i o h => by
    have := hR.obj i o h
    cases o <;> exact this⟩

/-- The ghost state with more cells that don't change any more. -/
def Gh.withI (G : Gh) (b : Nat) (f : Nat → Option Value) : Gh := { G with I := fun b' o => if b' = b then f o else G.I b' o }

theorem Gh.withI_le {G : Gh} {b : Nat} {f : Nat → Option Value} (h : ∀ o v, G.I b o = some v → f o = some v) : G.le (G.withI b f) :=
  ⟨Nat.le_refl _, fun _ _ => rfl, fun _ _ => rfl, fun _ _ => rfl, fun b' o v hv => by
    show (if b' = b then f o else G.I b' o) = some v
    by_cases e : b' = b
    · rw [if_pos e]; exact h o v (e ▸ hv)
    · rw [if_neg e]; exact hv, rfl⟩

/-- A new block whose cells don't change any more. -/
theorem Rel.allocI {G : Gh} {M : AMem} {w : World} (hR : Rel G M w) (a : Array Value) (T : TypeId) :
    G.le (G.withI w.heap.size (fun o => a[o]?)) ∧ Rel (G.withI w.heap.size (fun o => a[o]?)) M (w.alloc (.cells a T)) := by
  have hle : G.le (G.withI w.heap.size (fun o => a[o]?)) := Gh.withI_le fun o v hv => by
    rw [hR.I_none _ _ (Nat.le_refl _)] at hv; cases hv
  refine ⟨hle, hR.n, hR.below.alloc hR.below.size _, ?_, ?_, hR.sep, ?_⟩
  · intro b o v hv
    have hv' : (if b = w.heap.size then a[o]? else G.I b o) = some v := hv
    by_cases e : b = w.heap.size
    · rw [if_pos e] at hv'
      subst e
      rw [World.cell?_alloc_new]
      exact hv'
    · rw [if_neg e] at hv'
      rw [World.cell?_alloc_lt _ _ _ (hR.I_lt hv')]
      exact hR.imm b o v hv'
  · intro i o hi hal
    obtain ⟨h1, h2⟩ := hR.new i o hi hal
    exact ⟨h1, by rw [World.size_alloc]; exact Nat.lt_succ_of_lt h2⟩
  · intro i o hi
    refine (hR.obj i o hi).mono hle (hR.lt hi) (fun hal => Below.heap_alloc _ _ _ (hR.new i o hi hal).2) (fun hal q hq => ?_)
    show (if G.φ i = w.heap.size then a[q]? else G.I (G.φ i) q) = none
    rw [if_neg (Nat.ne_of_lt (hR.new i o hi hal).2)]
    exact hq

/-- The ghost state with one object more. -/
def Gh.push (G : Gh) (b : Nat) (c : Option Nat) (l : Nat) : Gh :=
  { G with n := G.n + 1, φ := fun i => if i = G.n then b else G.φ i, cap := fun i => if i = G.n then c else G.cap i, len := fun i => if i = G.n then l else G.len i }

theorem Gh.push_le (G : Gh) (b : Nat) (c : Option Nat) (l : Nat) : G.le (G.push b c l) :=
  ⟨Nat.le_succ _, fun i hi => if_neg (Nat.ne_of_lt hi), fun i hi => if_neg (Nat.ne_of_lt hi), fun i hi => if_neg (Nat.ne_of_lt hi), fun _ _ _ h => h, rfl⟩

@[simp] theorem Gh.push_φ (G : Gh) (b : Nat) (c : Option Nat) (l : Nat) : (G.push b c l).φ G.n = b := if_pos rfl
@[simp] theorem Gh.push_cap (G : Gh) (b : Nat) (c : Option Nat) (l : Nat) : (G.push b c l).cap G.n = c := if_pos rfl
@[simp] theorem Gh.push_len (G : Gh) (b : Nat) (c : Option Nat) (l : Nat) : (G.push b c l).len G.n = l := if_pos rfl

/-- An object more: of a world in which the others stand. -/
theorem Rel.push {G : Gh} {M : AMem} {w : World} (hR : Rel G M w) (o : AObj) (b : Nat) (c : Option Nat) (l : Nat)
    (hnew : o.alive (G.push b c l) G.n → G.w0.heap.size ≤ b ∧ b < w.heap.size) (hsep : o.alive (G.push b c l) G.n → ∀ i o', M[i]? = some o' → o'.alive G i → G.φ i ≠ b)
    (ho : OR (G.push b c l) w G.n o) : Rel (G.push b c l) (M ++ [o]) w := by
  have hle := Gh.push_le G b c l
  have old : ∀ i o', (M ++ [o])[i]? = some o' → (i < G.n ∧ M[i]? = some o') ∨ (i = G.n ∧ o' = o) := by
    intro i o' h
    by_cases hi : i < M.length
    · rw [List.getElem?_append_left hi] at h
      exact .inl ⟨by rw [← hR.n]; exact hi, h⟩
    · rw [List.getElem?_append_right (by omega)] at h
      have : i - M.length = 0 := by
        rcases Nat.eq_zero_or_pos (i - M.length) with e | e
        · exact e
        · rw [List.getElem?_eq_none (by simp; omega)] at h; cases h
      rw [this] at h
      simp at h
      exact .inr ⟨by rw [← hR.n]; omega, h.symm⟩
  refine ⟨by simp [hR.n, Gh.push], hR.below, hR.imm, ?_, ?_, ?_⟩
  · intro i o' h hal
    rcases old i o' h with ⟨hi, h'⟩ | ⟨rfl, rfl⟩
    · rw [hle.φ i hi]
      exact hR.new i o' h' ((AObj.alive_mono hle hi).1 hal)
    · rw [Gh.push_φ]
      exact hnew hal
  · intro i j o1 o2 h1 h2 a1 a2 he
    rcases old i o1 h1 with ⟨hi, h1'⟩ | ⟨rfl, rfl⟩ <;> rcases old j o2 h2 with ⟨hj, h2'⟩ | ⟨rfl, rfl⟩
    · rw [hle.φ i hi, hle.φ j hj] at he
      exact hR.sep i j o1 o2 h1' h2' ((AObj.alive_mono hle hi).1 a1) ((AObj.alive_mono hle hj).1 a2) he
    · rw [hle.φ i hi, Gh.push_φ] at he
      exact absurd he (hsep a2 i o1 h1' ((AObj.alive_mono hle hi).1 a1))
    · rw [hle.φ j hj, Gh.push_φ] at he
      exact absurd he.symm (hsep a1 j o2 h2' ((AObj.alive_mono hle hj).1 a2))
    · rfl
  · intro i o' h
    rcases old i o' h with ⟨hi, h'⟩ | ⟨rfl, rfl⟩
    · exact (hR.obj i o' h').mono hle hi (fun _ => rfl) (fun _ q hq => hq)
    · exact ho

/-- A new block that isn't told of. -/
theorem Rel.alloc {G : Gh} {M : AMem} {w : World} (hR : Rel G M w) (ob : Obj) : Rel G M (w.alloc ob) := by
  refine ⟨hR.n, hR.below.alloc hR.below.size _, ?_, ?_, hR.sep, ?_⟩
  · intro b o v hv
    rw [World.cell?_alloc_lt _ _ _ (hR.I_lt hv)]
    exact hR.imm b o v hv
  · intro i o hi hal
    obtain ⟨h1, h2⟩ := hR.new i o hi hal
    exact ⟨h1, by rw [World.size_alloc]; exact Nat.lt_succ_of_lt h2⟩
  · intro i o hi
    exact (hR.obj i o hi).mono (.refl G) (hR.lt hi) (fun hal => Below.heap_alloc _ _ _ (hR.new i o hi hal).2) (fun hal q hq => hq)

/-- A new object of cells. -/
theorem Rel.allocCells {G : Gh} {M : AMem} {w : World} (hR : Rel G M w) (cs : List V) (a : Array Value) (T : TypeId) (hl : cs.length ≤ a.size) (hv : ∀ (j : Nat) (x : V) (v : Value), cs[j]? = some x → a[j]? = some v → VR G x v) :
    Rel (G.push w.heap.size (some a.size) 0) (M ++ [.cells cs]) (w.alloc (.cells a T)) := by
  refine (hR.alloc (.cells a T)).push (.cells cs) w.heap.size (some a.size) 0 (fun _ => ⟨hR.below.size, by simp⟩) (fun _ i o' hi hal he => ?_) ?_
  · have := (hR.new i o' hi hal).2
    omega
  · refine .inr ⟨a, T, ?_, by simp, hl, fun j x v hx hv' => (hv j x v hx hv').mono (Gh.push_le _ _ _ _), fun q => ?_⟩
    · rw [Gh.push_φ]; exact heap_alloc_new w _
    · rw [Gh.push_φ]; exact hR.I_none _ _ (Nat.le_refl _)

/-- One object's place changes, and its block alone. -/
theorem Rel.setObj {G : Gh} {M : AMem} {w w' : World} (hR : Rel G M w) {i : Nat} {o o' : AObj} (hi : M[i]? = some o) (hal : o.alive G i) (hsz : w.heap.size ≤ w'.heap.size)
    (hbelow : w'.os = w.os ∧ w'.tape = w.tape ∧ w'.output = w.output) (hfar : ∀ k, k ≠ G.φ i → k < w.heap.size → w'.heap[k]? = w.heap[k]?) (himm : ∀ q v, G.I (G.φ i) q = some v → w'.cell? ⟨G.φ i, q, none⟩ = some v)
    (ho : OR G w' i o') : Rel G (M.set i o') w' := by
  have hlt := hR.lt hi
  have hnew := hR.new i o hi hal
  have old : ∀ j o2, (M.set i o')[j]? = some o2 → (j = i ∧ o2 = o') ∨ (j ≠ i ∧ M[j]? = some o2) := by
    intro j o2 h
    by_cases e : j = i
    · subst e
      rw [List.getElem?_set_self (by rw [hR.n]; exact hlt)] at h
      injection h with h
      exact .inl ⟨rfl, h.symm⟩
    · rw [List.getElem?_set_ne (fun e' => e e'.symm)] at h
      exact .inr ⟨e, h⟩
  refine ⟨by simp [hR.n], ⟨?_, ?_, ?_, Nat.le_trans hR.below.size hsz, ?_⟩, ?_, ?_, ?_, ?_⟩
  · rw [hbelow.1]; exact hR.below.os
  · rw [hbelow.2.1]; exact hR.below.tape
  · rw [hbelow.2.2]; exact hR.below.output
  · intro k hk
    have := hR.below.size
    rw [hfar k (by omega) (by omega)]
    exact hR.below.block k hk
  · intro b q v hv
    by_cases e : b = G.φ i
    · subst e
      exact himm q v hv
    · have hb := hR.I_lt hv
      rw [World.cell?_of_block (w := w) (hfar b e hb)]
      exact hR.imm b q v hv
  · intro j o2 h hal2
    rcases old j o2 h with ⟨rfl, rfl⟩ | ⟨e, h'⟩
    · exact ⟨hnew.1, Nat.lt_of_lt_of_le hnew.2 hsz⟩
    · have := hR.new j o2 h' hal2
      exact ⟨this.1, Nat.lt_of_lt_of_le this.2 hsz⟩
  · intro j k o1 o2 h1 h2 a1 a2 he
    rcases old j o1 h1 with ⟨rfl, rfl⟩ | ⟨e1, h1'⟩ <;> rcases old k o2 h2 with ⟨rfl, rfl⟩ | ⟨e2, h2'⟩
    · rfl
    · exact absurd (hR.sep _ _ _ _ hi h2' hal a2 he) (fun e => e2 e.symm)
    · exact absurd (hR.sep _ _ _ _ h1' hi a1 hal he) e1
    · exact hR.sep _ _ _ _ h1' h2' a1 a2 he
  · intro j o2 h
    rcases old j o2 h with ⟨rfl, rfl⟩ | ⟨e, h'⟩
    · exact ho
    · refine (hR.obj j o2 h').mono (.refl G) (hR.lt h') (fun al => ?_) (fun _ q hq => hq)
      exact hfar _ (fun he => e (hR.sep _ _ _ _ h' hi al hal he)) (hR.new j o2 h' al).2


/-! ### Stores into cells -/
theorem setCells_heap (b : Nat) (T : TypeId) : ∀ (us : List Value) (o : Nat) (w : World) (a : Array Value), w.heap[b]? = some (.cells a T (0, 0)) →
    ∃ a' : Array Value, (w.setCells b o us).heap[b]? = some (.cells a' T (0, 0)) ∧ a'.size = a.size ∧ (∀ j, (j < o ∨ o + us.length ≤ j) → a'[j]? = a[j]?) ∧ ∀ j, o + us.length ≤ a.size → j < us.length → a'[o + j]? = us[j]?
  | [], o, w, a, h => ⟨a, h, rfl, fun _ _ => rfl, fun j _ hj => by simp at hj⟩
  | u :: us, o, w, a, h => by
    have h1 : (w.setCell ⟨b, o, none⟩ u).heap[b]? = some (.cells (a.setIfInBounds o u) T (0, 0)) := heap_setCell_same w b o a T u h
    obtain ⟨a', h2, h3, h4, h5⟩ := setCells_heap b T us (o + 1) _ _ h1
    refine ⟨a', h2, by rw [h3]; simp, fun j hj => ?_, fun j hle hj => ?_⟩
    · simp only [List.length_cons] at hj
      rw [h4 j (by omega), Array.getElem?_setIfInBounds_ne (by omega)]
    · simp only [List.length_cons] at hle hj
      cases j with
      | zero =>
        rw [Nat.add_zero, h4 o (by omega), Array.getElem?_setIfInBounds_self_of_lt (by omega)]
        rfl
      | succ j =>
        have := h5 j (by simp; omega) (by omega)
        rw [show o + 1 + j = o + (j + 1) by omega] at this
        rw [this]
        rfl

theorem setCells_size (b : Nat) : ∀ (us : List Value) (o : Nat) (w : World), (w.setCells b o us).heap.size = w.heap.size
  | [], _, _ => rfl
  | u :: us, o, w => by rw [World.setCells, setCells_size b us (o + 1) _, World.size_setCell]

theorem setCells_tape (b : Nat) : ∀ (us : List Value) (o : Nat) (w : World), (w.setCells b o us).tape = w.tape
  | [], _, _ => rfl
  | u :: us, o, w => by rw [World.setCells, setCells_tape b us (o + 1) _, World.tape_setCell]

/-- Cells with others in the place of some. -/
def overA (cs : List V) (off : Nat) (vs : List V) : List V := cs.take off ++ (vs ++ cs.drop (off + vs.length))

theorem overA_length {cs : List V} {off : Nat} {vs : List V} (h : off + vs.length ≤ cs.length) : (overA cs off vs).length = cs.length := by
  simp [overA]
  omega

theorem overA_at {cs : List V} {off : Nat} {vs : List V} (h : off + vs.length ≤ cs.length) (j : Nat) :
    (overA cs off vs)[j]? = if off ≤ j ∧ j < off + vs.length then vs[j - off]? else cs[j]? := by
  unfold overA
  by_cases h1 : j < off
  · rw [List.getElem?_append_left (by simp; omega), List.getElem?_take, if_pos h1, if_neg (by omega)]
  · rw [List.getElem?_append_right (by simp; omega)]
    have e : (List.take off cs).length = off := by simp; omega
    rw [e]
    by_cases h2 : j < off + vs.length
    · rw [List.getElem?_append_left (by omega), if_pos ⟨by omega, h2⟩]
    · rw [List.getElem?_append_right (by omega), List.getElem?_drop, if_neg (by omega)]
      congr 1
      omega

theorem Rel.store {G : Gh} {M : AMem} {w : World} (hR : Rel G M w) {i : Nat} {cs : List V} (hi : M[i]? = some (.cells cs)) (off : Nat) (vs : List V) (us : List Value) (hl : us.length = vs.length) (hfit : off + vs.length ≤ cs.length) (hpos : 0 < vs.length)
    (hv : ∀ (j : Nat) (x : V) (v : Value), vs[j]? = some x → us[j]? = some v → VR G x v) : w.there (G.φ i) off us.length ∧ Rel G (M.set i (.cells (overA cs off vs))) (w.setCells (G.φ i) off us) := by
  obtain ⟨_, rfl⟩ | ⟨a, T, h1, h2, h3, h4, h5⟩ := hR.obj i _ hi
  · simp only [List.length_nil] at hfit; omega
  have al : AObj.alive G i (.cells cs) := by show G.cap i ≠ none; rw [h2]; simp
  refine ⟨fun j hj => ⟨?_, frozen_of_row w _ _ a T h1⟩, ?_⟩
  · rw [cell_of_row w _ _ a T _ h1, Array.getElem?_eq_getElem (by omega)]
    rfl
  obtain ⟨a', g1, g2, g3, g4⟩ := setCells_heap (G.φ i) T us off w a h1
  refine hR.setObj hi al (by rw [setCells_size]; exact Nat.le_refl _) ⟨World.os_setCells _ _ _ _, setCells_tape _ _ _ _, World.output_setCells _ _ _ _⟩ (fun k hk hlt => World.heap_setCells_other _ _ _ _ hlt hk) (fun q v hq => ?_) ?_
  · rw [h5 q] at hq
    cases hq
  · refine .inr ⟨a', T, g1, by rw [g2]; exact h2, by rw [overA_length hfit, g2]; exact h3, fun j x v hx hv' => ?_, h5⟩
    rw [overA_at hfit] at hx
    split at hx
    · rename_i hj
      have e : off + (j - off) = j := by omega
      have := g4 (j - off) (by omega) (by omega)
      rw [e] at this
      rw [this] at hv'
      exact hv _ x v hx hv'
    · rename_i hj
      rw [g3 j (by omega)] at hv'
      exact h4 j x v hx hv'

/-- An object is given up. -/
theorem Rel.drop {G : Gh} {M : AMem} {w : World} (hR : Rel G M w) (i : Nat) : Rel G (M.set i .gone) w := by
  have old : ∀ (j : Nat) (o2 : AObj), (M.set i AObj.gone)[j]? = some o2 → o2 = .gone ∨ M[j]? = some o2 := by
    intro j o2 h
    by_cases e : i = j
    · subst e
      rcases Nat.lt_or_ge i M.length with hl | hl
      · rw [List.getElem?_set_self hl] at h
        injection h with h
        exact .inl h.symm
      · rw [List.getElem?_eq_none (by simpa using hl)] at h; cases h
    · rw [List.getElem?_set_ne e] at h
      exact .inr h
  refine ⟨by simp [hR.n], hR.below, hR.imm, ?_, ?_, ?_⟩
  · intro j o h hal
    rcases old j o h with rfl | h'
    · exact hal.elim
    · exact hR.new j o h' hal
  · intro j k o1 o2 h1 h2 a1 a2 he
    rcases old j o1 h1 with rfl | h1'
    · exact a1.elim
    · rcases old k o2 h2 with rfl | h2'
      · exact a2.elim
      · exact hR.sep j k o1 o2 h1' h2' a1 a2 he
  · intro j o h
    rcases old j o h with rfl | h'
    · trivial
    · exact hR.obj j o h'

end Go.Ax

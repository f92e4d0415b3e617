/- The abstract machine, part 4: append. -/
import Derived.Test.YtfpmohmhiecjfaaDoorAx3
set_option linter.unusedVariables false
set_option linter.unusedSimpArgs false
namespace Go.Ax
open Go.RowKit

/-- A write into a block that no object has, into cells of which nothing is said. -/
theorem Rel.write {G : Gh} {M : AMem} {w : World} (hR : Rel G M w) {b off : Nat} (us : List Value) (hb : G.w0.heap.size ≤ b) (hfree : ∀ i o, M[i]? = some o → o.alive G i → G.φ i ≠ b) (hI : ∀ q, off ≤ q → q < off + us.length → G.I b q = none) :
    Rel G M (w.setCells b off us) := by
  refine ⟨hR.n, ⟨?_, ?_, ?_, ?_, ?_⟩, ?_, ?_, hR.sep, ?_⟩
  · rw [World.os_setCells]; exact hR.below.os
  · rw [setCells_tape]; exact hR.below.tape
  · rw [World.output_setCells]; exact hR.below.output
  · rw [setCells_size]; exact hR.below.size
  · intro k hk
    have := hR.below.size
    rw [World.heap_setCells_other _ _ _ _ (by omega) (by omega)]
    exact hR.below.block k hk
  · intro b' q v hv
    rw [World.cell?_setCells_out]
    · exact hR.imm b' q v hv
    · intro he _
      show q < off ∨ off + us.length ≤ q
      rcases Nat.lt_or_ge q off with h | h
      · exact .inl h
      · rcases Nat.lt_or_ge q (off + us.length) with h' | h'
        · have e : b' = b := he
          subst e
          rw [hI q h h'] at hv
          cases hv
        · exact .inr h'
  · intro i o h hal
    rw [setCells_size]
    exact hR.new i o h hal
  · intro i o h
    exact (hR.obj i o h).mono (.refl G) (hR.lt h) (fun hal => World.heap_setCells_other _ _ _ _ (hR.new i o h hal).2 (hfree i o h hal)) (fun _ q hq => hq)

/-- More cells of a block that no object has don't change any more. -/
theorem Rel.extI {G : Gh} {M : AMem} {w : World} (hR : Rel G M w) {b : Nat} {f : Nat → Option Value} (hfree : ∀ i o, M[i]? = some o → o.alive G i → G.φ i ≠ b) (hf : ∀ q v, f q = some v → w.cell? ⟨b, q, none⟩ = some v)
    (hext : ∀ q v, G.I b q = some v → f q = some v) : G.le (G.withI b f) ∧ Rel (G.withI b f) M w := by
  have hle := Gh.withI_le hext
  refine ⟨hle, hR.n, hR.below, ?_, hR.new, hR.sep, ?_⟩
  · intro b' q v hv
    have hv' : (if b' = b then f q else G.I b' q) = some v := hv
    by_cases e : b' = b
    · rw [if_pos e] at hv'
      subst e
      exact hf q v hv'
    · rw [if_neg e] at hv'
      exact hR.imm b' q v hv'
  · intro i o h
    refine (hR.obj i o h).mono hle (hR.lt h) (fun _ => rfl) (fun hal q hq => ?_)
    show (if G.φ i = b then f q else G.I (G.φ i) q) = none
    rw [if_neg (hfree i o h hal)]
    exact hq

/-! ### What is appended -/
/-- The elements of a slice. -/
def srcA (M : AMem) : V → Option (List V)
  | .list _ xs => some xs
  | .arr i off len sz => match M[i]? with
    | some (.cells cs) => if sz = 1 ∧ off + len ≤ cs.length ∧ ((cs.drop off).take len).all V.one = true then some ((cs.drop off).take len) else none
    | _ => none
  | _ => none

theorem cellsL_single : ∀ {xs : List V}, (∀ x ∈ xs, x.one = true) → cellsL xs = xs
  | [], _ => rfl
  | x :: xs, h => by
    have hx : x.cells = [x] := by
      have := h x (by simp)
      cases x <;> first | rfl | (simp [V.one] at this)
    rw [cellsL_cons, hx, cellsL_single (fun y hy => h y (by simp [hy]))]
    rfl

theorem one_cells {x : V} (h : x.okv = true) : ∀ y ∈ x.cells, y.one = true := by
  cases x <;> simp_all [V.okv, V.cells, V.one]

theorem one_cellsL {xs : List V} (h : ∀ x ∈ xs, x.okv = true) : ∀ y ∈ cellsL xs, y.one = true := by
  intro y hy
  obtain ⟨x, hx, hy⟩ := List.mem_flatMap.1 hy
  exact one_cells (h x hx) y hy

theorem src_sound {P : Program} {G : Gh} {M : AMem} {w : World} (hR : Rel G M w) {x : V} {v : Value} (hx : VR G x v) {ys : List V} (hs : srcA M x = some ys) {sz : Nat} (hz : 0 < sz) (hys : ∀ y ∈ ys, y.cells.length = sz ∧ y.okv = true)
    {tx e' : TypeId} (hk : P.underlying tx = some (.slice e')) :
    ∃ news : List Value, news.length = ys.length * sz ∧ (∀ (j : Nat) (y : V) (u : Value), (cellsL ys)[j]? = some y → news[j]? = some u → VR G y u) ∧ Src P sz tx v ys.length news w := by
  have hone := one_cellsL (fun y hy => (hys y hy).2)
  have hlen := cellsL_length (fun y hy => (hys y hy).1)
  have mk : ∀ (a : Addr) (n c : Nat), v = .slice (some a) n c → n = ys.length → (∀ j y, (cellsL ys)[j]? = some y → ∃ u, w.cell? (a.add j) = some u ∧ VR G y u) →
      ∃ news : List Value, news.length = ys.length * sz ∧ (∀ (j : Nat) (y : V) (u : Value), (cellsL ys)[j]? = some y → news[j]? = some u → VR G y u) ∧ Src P sz tx v ys.length news w := by
    intro a n c hv hn hc
    obtain ⟨us, h1, h2, h3⟩ := exists_vals (G := G) (cellsL ys) (fun j => w.cell? (a.add j)) hc
    refine ⟨us, by rw [h1, hlen], h3, ?_⟩
    subst hv; subst hn
    refine Src.ofSlice w hk a _ c us (by rw [h1, hlen]) h2 (fun u hu => ?_)
    obtain ⟨j, hj, rfl⟩ := List.mem_iff_getElem.1 hu
    have hj' : j < (cellsL ys).length := by omega
    exact (h3 j _ _ (List.getElem?_eq_getElem hj') (List.getElem?_eq_getElem hj)).one (hone _ (List.getElem_mem hj'))
  cases hx with
  | nil t a cap ht hi =>
    simp [srcA] at hs
    subst hs
    cases a with
    | none => exact ⟨[], by simp, fun j y u hy => by simp at hy, Src.ofNil w hk cap⟩
    | some a => exact mk a 0 cap rfl rfl (fun j y hy => by simp at hy)
  | list t xs b o cap sz' val h1 h2 h3 h4 h5 h6 h7 =>
    simp [srcA] at hs
    subst hs
    refine mk ⟨b, o, none⟩ _ cap rfl rfl (fun j y hy => ?_)
    have hj := (List.getElem?_eq_some_iff.1 hy).1
    rw [cellsL_length h3] at hj
    exact ⟨val j, by rw [Addr.add_mid]; exact hR.imm _ _ _ (h4 j hj), h5 j y hy⟩
  | arr i off len sz' cap c hi hc hl hb =>
    simp only [srcA] at hs
    split at hs
    · rename_i cs hM
      split at hs
      · rename_i hle
        injection hs with hs
        subst hs
        obtain ⟨g0, _⟩ | ⟨a, T, g1, g2, g3, g4, g5⟩ := hR.obj i _ hM
        · rw [hc] at g0; cases g0
        refine mk ⟨G.φ i, off, none⟩ len cap rfl (by simp; omega) (fun j y hy => ?_)
        rw [cellsL_single (fun y hy => List.all_eq_true.1 hle.2.2 y hy)] at hy
        rw [List.getElem?_take] at hy
        split at hy
        · rw [List.getElem?_drop] at hy
          have hlt : off + j < a.size := by
            have := (List.getElem?_eq_some_iff.1 hy).1
            omega
          exact ⟨a[off + j], by rw [Addr.add_mid, cell_of_row w _ _ a T _ g1]; exact Array.getElem?_eq_getElem hlt, g4 _ y _ hy (Array.getElem?_eq_getElem hlt)⟩
        · cases hy
      · cases hs
    · cases hs
  | arrNil i sz' a hi hc =>
    simp only [srcA] at hs
    split at hs
    · split at hs
      · injection hs with hs
        simp at hs
        subst hs
        cases a with
        | none => exact ⟨[], by simp, fun j y u hy => by simp at hy, Src.ofNil w hk 0⟩
        | some a => exact mk a 0 0 rfl rfl (fun j y hy => by simp at hy)
      · cases hs
    · cases hs
  | _ => simp [srcA] at hs


/-! ### append -/
def byT (P : Program) (e : TypeId) : Nat := ((P.info? e).map (·.bytes)).getD 0
def zeroT (P : Program) (t : TypeId) : Option V := ((P.info? t).bind (·.zero)).map constV
def elT (P : Program) (t : TypeId) : Option TypeId :=
  match P.underlying t with
  | some (.slice e) => some e
  | _ => none

theorem elT_some {P : Program} {t e : TypeId} (h : elT P t = some e) : P.underlying t = some (.slice e) := by
  unfold elT at h
  split at h
  · rename_i e' h'; injection h with h; subst h; exact h'
  · cases h

theorem zeroT_some {P : Program} {t : TypeId} {z : V} (h : zeroT P t = some z) : ∃ i v, P.info? t = some i ∧ i.zero = some v ∧ z = constV v := by
  unfold zeroT at h
  cases hi : P.info? t with
  | none => simp [hi] at h
  | some i =>
    simp [hi] at h
    obtain ⟨v, h1, h2⟩ := h
    exact ⟨i, v, rfl, h1, h2.symm⟩

theorem constV_cells (v : Value) : (constV v).cells.length = v.cells.size := by
  unfold constV
  split
  · simp [V.cells, Value.cells]
  · rename_i h
    have : (cellV v).cells = [cellV v] := by
      unfold cellV
      split <;> rfl
    rw [this]
    cases v <;> first | rfl | (exact absurd rfl (h _))

/-- What the model's append does: it writes behind what is there, or makes a new row. -/
theorem append_run {P : Program} {w : World} {t tx ty e : TypeId} {sz : Nat} {z : V} (ht : elT P t = some e) (hz : zeroT P e = some z) (hsz : szT P e = sz) (hpos : 0 < sz) (hzc : z.cells.length = sz) {base : Option Addr} {len cap m : Nat} {x : Value} {news olds : List Value}
    (hs : Src P sz tx x m news w) (hb : (len + m) * byT P e ≤ 140737488355328) (hl : len + m ≤ 1099511627776) (hold : ∃ bo, (base = some bo ∧ ∀ (j : Nat) (u : Value), olds[j]? = some u → w.cell? (bo.add j) = some u) ∨ (base = none ∧ olds = []))
    (hol : olds.length = len * sz) (hcap : base = none → cap = 0) :
    (len + m ≤ cap → ∀ b off, base = some ⟨b, off, none⟩ → (∀ j, j < news.length → (w.cell? ⟨b, off + len * sz + j, none⟩).isSome = true) → (∀ j, j < news.length → w.frozen? ⟨b, off + len * sz + j, none⟩ = false) →
      (Builtin.append_ #[t, tx] ty #[.slice base len cap, x]).run P w = .ok (.slice base (len + m) cap) (w.setCells b (off + len * sz) news)) ∧
    (cap < len + m → ∃ (nc : Nat) (a : Array Value), len + m ≤ nc ∧ a.size = nc * sz ∧ (∀ j, j < (len + m) * sz → a[j]? = (olds ++ news)[j]?) ∧
      (Builtin.append_ #[t, tx] ty #[.slice base len cap, x]).run P w = .ok (.slice (some ⟨w.heap.size, 0, none⟩) (len + m) nc) (w.drew.alloc (.cells a e))) := by
  have ht' := elT_some ht
  obtain ⟨i, v, hi, hv, rfl⟩ := zeroT_some hz
  have hisz : i.size = sz := by rw [← hsz]; simp [szT, hi]
  have hiby : i.bytes = byT P e := by simp [byT, hi]
  subst hisz
  constructor
  · intro hroom b off hbase hc hf
    subst hbase
    exact run_append_room_src w t tx ty e i ht' hi b off len cap x m news hs hroom hc hf
  · intro hgrow
    have hfit : Builtin.nextslicecap (len + m) cap * i.bytes ≤ 281474976710656 := growslice_fits hgrow (by rw [hiby]; exact hb)
    have hfc : (Builtin.firstCells i.size len (.slice base len cap)).run P w.drew = .ok olds.toArray w.drew := by
      obtain ⟨bo, ⟨rfl, h⟩ | ⟨rfl, rfl⟩⟩ := hold
      · exact run_firstCells_some w.drew i.size len bo len cap olds hol (fun j u hu => by rw [World.cell?_drew]; exact h j u hu)
      · have : len = 0 := by
          rcases Nat.eq_zero_or_pos len with h | h
          · exact h
          · have := Nat.mul_pos h hpos
            simp at hol
            omega
        subst this
        exact run_firstCells_none w.drew i.size 0 0 cap
    have hrun := run_append_grow_src w t tx ty e i v ht' hi hv base len cap olds hfc x m news hs hgrow (by omega) hfit
    have hge := grownCap_ge w (len + m) cap e
    have hzs : v.cells.size = i.size := by rw [← constV_cells]; exact hzc
    refine ⟨grownCap w (len + m) cap e, _, hge, ?_, ?_, hrun⟩
    · rw [Array.size_append, size_zeroCells, hzs]
      simp [hol, hs.newsLen]
      rw [← Nat.add_mul, ← Nat.add_mul]
      congr 1
      omega
    · intro j hj
      have hl2 : (olds ++ news).length = (len + m) * i.size := by rw [List.length_append, hol, hs.newsLen, Nat.add_mul]
      rw [Array.getElem?_append_left (by simpa [hl2] using hj)]
      simp


theorem append_none {P : Program} {w : World} {t tx ty e : TypeId} {sz : Nat} (ht : elT P t = some e) (hsz : szT P e = sz) (hpos : 0 < sz) {x : Value} (hs : Src P sz tx x 0 [] w) :
    (Builtin.append_ #[t, tx] ty #[.slice none 0 0, x]).run P w = .ok (.slice none 0 0) w := by
  have ht' := elT_some ht
  obtain ⟨i, hi, hisz⟩ := info_of (P := P) (t := e) (by omega)
  rw [hsz] at hisz
  subst hisz
  rcases hs.kind with ⟨e', hk⟩ | hk <;> simp [Builtin.append_, run_underlying ht', run_underlying hk, sizeOf, typeInfo, hi, hs.len, hs.cells]

/-- The permission that a tag names is given up. -/
def dropTag (t : Tag) (M : AMem) : AMem :=
  match t with
  | .own i => M.set i .gone
  | _ => M

/-- May who holds the memory append to a slice of this tag? -/
def tagOk (t : Tag) (M : AMem) : Bool :=
  match t with
  | .full => true
  | .dull => false
  | .own i => match M[i]? with
    | some .tail => true
    | _ => false

theorem Rel.dropTag {G : Gh} {M : AMem} {w : World} (hR : Rel G M w) (t : Tag) : Rel G (dropTag t M) w := by
  cases t with
  | own i => exact hR.drop i
  | _ => exact hR

theorem dropTag_length (t : Tag) (M : AMem) : (dropTag t M).length = M.length := by
  cases t <;> simp [dropTag]

/-- A permission that allows nothing. -/
theorem Rel.pushIdle {G : Gh} {M : AMem} {w : World} (hR : Rel G M w) : Rel (G.push 0 none 0) (M ++ [.tail]) w :=
  hR.push .tail 0 none 0 (fun h => absurd (Gh.push_cap _ _ _ _) h) (fun h => absurd (Gh.push_cap _ _ _ _) h) (fun c hc => by rw [Gh.push_cap] at hc; cases hc)

/-- A permission over a block that no object has. -/
theorem Rel.pushTail {G : Gh} {M : AMem} {w : World} (hR : Rel G M w) (b l : Nat) (a : Array Value) (T : TypeId) (hb : G.w0.heap.size ≤ b) (hh : w.heap[b]? = some (.cells a T (0, 0)))
    (hfree : ∀ i o, M[i]? = some o → o.alive G i → G.φ i ≠ b) (hI : ∀ q, l ≤ q → G.I b q = none) : Rel (G.push b (some a.size) l) (M ++ [.tail]) w := by
  refine hR.push .tail b (some a.size) l (fun _ => ⟨hb, ?_⟩) (fun _ => hfree) ?_
  · exact (Array.getElem?_eq_some_iff.1 hh).1
  · intro c hc
    rw [Gh.push_cap] at hc
    injection hc with hc
    refine ⟨a, T, by rw [Gh.push_φ]; exact hh, hc, fun q hq => ?_⟩
    rw [Gh.push_len] at hq
    rw [Gh.push_φ]
    exact hI q hq

theorem free_of_gone {G : Gh} {M : AMem} {w : World} (hR : Rel G M w) {i : Nat} {o : AObj} (hi : M[i]? = some o) (hal : o.alive G i) : ∀ j o', (M.set i .gone)[j]? = some o' → o'.alive G j → G.φ j ≠ G.φ i := by
  intro j o' h hal' he
  have hlt := (List.getElem?_eq_some_iff.1 hi).1
  by_cases e : i = j
  · subst e
    rw [List.getElem?_set_self hlt] at h
    injection h with h
    subst h
    exact hal'
  · rw [List.getElem?_set_ne e] at h
    exact e (hR.sep j i o' o h hi hal' hal he).symm

/-- What holds of a slice's tag when its memory is new: the same slice, by another permission. -/
theorem retag {G : Gh} {M : AMem} {w : World} (hR : Rel G M w) {t : Tag} {xs : List V} {v : Value} (hx : VR G (.list t xs) v) (ht : tagOk t M = true) :
    ∃ G', G.le G' ∧ Rel G' (dropTag t M ++ [.tail]) w ∧ VR G' (.list (.own M.length) xs) v := by
  have idle : (∀ (len cap : Nat) (b o sz : Nat), TagOk G t b o len cap sz → cap = len) → (∀ i, t = .own i → G.cap i = none) → ∃ G', G.le G' ∧ Rel G' (dropTag t M ++ [.tail]) w ∧ VR G' (.list (.own M.length) xs) v := by
    intro hc hcap
    have hle := Gh.push_le G 0 none 0
    refine ⟨_, hle, (hR.dropTag t).pushIdle, ?_⟩
    have hn : M.length = G.n := hR.n
    cases hx with
    | nil _ a cap h1 h2 =>
      refine .nil _ a cap ?_ (fun i e => ?_)
      · rcases h1 with h1 | h1
        · subst h1; simp [tagOk] at ht
        · exact .inr h1
      · injection e with e
        subst e
        rw [hn]
        exact ⟨Nat.lt_succ_self _, Gh.push_cap _ _ _ _⟩
    | list _ xs b o cap sz val h1 h2 h3 h4 h5 h6 h7 =>
      refine .list _ xs b o cap sz val h1 h2 h3 h4 (fun j x hj => (h5 j x hj).mono hle) h6 ?_
      rw [hn]
      refine ⟨Nat.lt_succ_self _, ?_⟩
      rw [Gh.push_cap]
      exact hc _ _ _ _ _ h7
  cases t with
  | full => exact idle (fun _ _ _ _ _ h => h) (fun i e => by cases e)
  | dull => simp [tagOk] at ht
  | own i =>
    cases hcap : G.cap i with
    | none => exact idle (fun len cap b o sz h => by have := h.2; rw [hcap] at this; exact this) (fun j e => by injection e with e; subst e; exact hcap)
    | some c =>
      have hM : M[i]? = some .tail := by
        simp only [tagOk] at ht
        split at ht
        · assumption
        · cases ht
      have hal : AObj.alive G i .tail := by show G.cap i ≠ none; rw [hcap]; simp
      obtain ⟨a, T, g1, g2, g3⟩ := hR.obj i _ hM c hcap
      have hle := Gh.push_le G (G.φ i) (some a.size) (G.len i)
      refine ⟨_, hle, (hR.drop i).pushTail (G.φ i) (G.len i) a T (hR.new i _ hM hal).1 g1 (free_of_gone hR hM hal) g3, ?_⟩
      have hn : M.length = G.n := hR.n
      cases hx with
      | nil _ ad cap h1 h2 =>
        have := (h2 i rfl).2
        rw [hcap] at this
        cases this
      | list _ xs b o cap sz val h1 h2 h3 h4 h5 h6 h7 =>
        refine .list _ xs b o cap sz val h1 h2 h3 h4 (fun j x hj => (h5 j x hj).mono hle) h6 ?_
        obtain ⟨_, h7⟩ := h7
        rw [hcap] at h7
        rw [hn]
        refine ⟨Nat.lt_succ_self _, ?_⟩
        rw [Gh.push_cap, Gh.push_φ, Gh.push_len]
        exact ⟨h7.1, h7.2.1, by rw [g2]; exact h7.2.2.1, h7.2.2.2⟩

theorem cellsL_append_at (xs ys : List V) (j : Nat) : (cellsL (xs ++ ys))[j]? = if j < (cellsL xs).length then (cellsL xs)[j]? else (cellsL ys)[j - (cellsL xs).length]? := by
  rw [cellsL_append, List.getElem?_append]

theorem append_list {P : Program} {G : Gh} {M : AMem} {w : World} (hR : Rel G M w) {t tx ty e e' : TypeId} {sz : Nat} {z : V} (ht : elT P t = some e) (hk : P.underlying tx = some (.slice e')) (hz : zeroT P e = some z) (hsz : szT P e = sz) (hpos : 0 < sz)
    (hzc : z.cells.length = sz) {tg : Tag} {xs ys : List V} {b v : Value} {s : V} (hb : VR G (.list tg xs) b) (hv : VR G s v) (hs : srcA M s = some ys) (htg : tagOk tg M = true) (hys : ∀ y ∈ ys, y.cells.length = sz ∧ y.okv = true) (hxs : ∀ x ∈ xs, x.cells.length = sz)
    (hby : byT P e ≤ 2048) (hl : xs.length + ys.length ≤ 1073741824) :
    ∃ val w' G', (Builtin.append_ #[t, tx] ty #[b, v]).run P w = .ok val w' ∧ G.le G' ∧ Rel G' (dropTag tg M ++ [.tail]) w' ∧ VR G' (.list (.own M.length) (xs ++ ys)) val := by
  obtain ⟨news, hnl, hnv, hsrc⟩ := src_sound hR hv hs hpos hys hk
  have hbytes : (xs.length + ys.length) * byT P e ≤ 140737488355328 := by
    have := Nat.mul_le_mul hl hby
    omega
  have hn : M.length = G.n := hR.n
  by_cases hm : ys.length = 0
  · -- nothing is appended
    obtain rfl : ys = [] := List.eq_nil_of_length_eq_zero hm
    obtain rfl : news = [] := List.eq_nil_of_length_eq_zero (by simpa using hnl)
    obtain ⟨G', h1, h2, h3⟩ := retag hR hb htg
    refine ⟨b, w, G', ?_, h1, h2, by rw [List.append_nil]; exact h3⟩
    cases hb with
    | nil _ a cap g1 g2 =>
      have hc0 : cap = 0 := by
        rcases g1 with g1 | g1
        · subst g1; simp [tagOk] at htg
        · exact g1
      subst hc0
      cases a with
      | none => exact append_none ht hsz hpos hsrc
      | some a =>
        have ht' := elT_some ht
        obtain ⟨i, hi, hisz⟩ := info_of (P := P) (t := e) (by omega)
        rw [hsz] at hisz
        subst hisz
        have hs0 : Src P i.size tx v 0 [] w := hsrc
        rcases hs0.kind with ⟨e', hk⟩ | hk <;> simp [Builtin.append_, run_underlying ht', run_underlying hk, sizeOf, typeInfo, hi, hs0.len, hs0.cells, storeCells]
    | list _ _ bb o cap sz' val g1 g2 g3 g4 g5 g6 g7 =>
      have hs0 : Src P sz tx v 0 [] w := hsrc
      have ht' := elT_some ht
      obtain ⟨i, hi, hisz⟩ := info_of (P := P) (t := e) (by omega)
      rw [hsz] at hisz
      subst hisz
      have hroom : xs.length + 0 ≤ cap := g6
      have := run_append_room_src w t tx ty e i ht' hi bb o xs.length cap v 0 [] hs0 hroom (by simp) (by simp)
      simpa [World.setCells] using this
  · -- something is
    have hm' : 0 < ys.length := Nat.pos_of_ne_zero hm
    have hlen : (cellsL ys).length = ys.length * sz := cellsL_length (fun y hy => (hys y hy).1)
    have hlx : (cellsL xs).length = xs.length * sz := cellsL_length hxs
    -- what lies there already
    have old : ∃ base cap olds, b = .slice base xs.length cap ∧ xs.length ≤ cap ∧ olds.length = xs.length * sz ∧ (∀ (j : Nat) (x : V) (u : Value), (cellsL xs)[j]? = some x → olds[j]? = some u → VR G x u) ∧
        (∃ bo, (base = some bo ∧ ∀ (j : Nat) (u : Value), olds[j]? = some u → w.cell? (bo.add j) = some u) ∨ (base = none ∧ olds = [])) ∧ (base = none → cap = 0) ∧
        ((∃ i c, tg = .own i ∧ G.cap i = some c ∧ base = some ⟨G.φ i, 0, none⟩ ∧ cap * sz = c ∧ G.len i = xs.length * sz ∧ ∀ j (u : Value), olds[j]? = some u → G.I (G.φ i) j = some u) ∨ cap = xs.length) := by
      cases hb with
      | nil _ a cap g1 g2 =>
        have hc0 : cap = 0 := by
          rcases g1 with g1 | g1
          · subst g1; simp [tagOk] at htg
          · exact g1
        subst hc0
        cases a with
        | none => exact ⟨none, 0, [], rfl, Nat.le_refl _, by simp, fun j x u hx => by simp at hx, ⟨⟨0, 0, none⟩, .inr ⟨rfl, rfl⟩⟩, fun _ => rfl, .inr rfl⟩
        | some a => exact ⟨some a, 0, [], rfl, Nat.le_refl _, by simp, fun j x u hx => by simp at hx, ⟨a, .inl ⟨rfl, fun j u hu => (by simp at hu)⟩⟩, fun h => (by cases h), .inr rfl⟩
      | list _ _ bb o cap sz' val g1 g2 g3 g4 g5 g6 g7 =>
        have hsz' : sz' = sz := by
          cases xs with
          | nil => simp at g1
          | cons x xs => rw [← g3 x (by simp), hxs x (by simp)]
        subst hsz'
        have hol : ((List.range (xs.length * sz')).map val).length = xs.length * sz' := by simp
        have hat : ∀ j (u : Value), ((List.range (xs.length * sz')).map val)[j]? = some u → j < xs.length * sz' ∧ u = val j := by
          intro j u hu
          have hj := (List.getElem?_eq_some_iff.1 hu).1
          rw [hol] at hj
          rw [List.getElem?_map, List.getElem?_range hj] at hu
          injection hu with hu
          exact ⟨hj, hu.symm⟩
        refine ⟨some ⟨bb, o, none⟩, cap, (List.range (xs.length * sz')).map val, rfl, g6, hol, fun j x u hx hu => ?_, ⟨⟨bb, o, none⟩, .inl ⟨rfl, fun j u hu => ?_⟩⟩, fun h => (by cases h), ?_⟩
        · obtain ⟨hj, rfl⟩ := hat j u hu
          exact g5 j x hx
        · obtain ⟨hj, rfl⟩ := hat j u hu
          rw [Addr.add_mid]
          exact hR.imm _ _ _ (g4 j hj)
        · cases tg with
          | full => exact .inr g7
          | dull => simp [tagOk] at htg
          | own i =>
            obtain ⟨_, g7⟩ := g7
            cases hcap : G.cap i with
            | none => rw [hcap] at g7; exact .inr g7
            | some c =>
              rw [hcap] at g7
              obtain ⟨q1, q2, q3, q4⟩ := g7
              subst q1; subst q2
              refine .inl ⟨i, c, rfl, hcap, rfl, q3, q4, fun j u hu => ?_⟩
              obtain ⟨hj, rfl⟩ := hat j u hu
              have := g4 j hj
              rwa [Nat.zero_add] at this
    obtain ⟨base, cap, olds, rfl, hle, hol, hov, hold, hcap0, hmode⟩ := old
    have hcat : (olds ++ news).length = (xs.length + ys.length) * sz := by rw [List.length_append, hol, hnl, Nat.add_mul]
    have hcv : ∀ (j : Nat) (x : V) (u : Value), (cellsL (xs ++ ys))[j]? = some x → (olds ++ news)[j]? = some u → VR G x u := by
      intro j x u hx hu
      rw [cellsL_append_at] at hx
      rw [List.getElem?_append] at hu
      rw [hlx] at hx
      rw [hol] at hu
      split at hx
      · rename_i hj
        rw [if_pos hj] at hu
        exact hov j x u hx hu
      · rename_i hj
        rw [if_neg hj] at hu
        exact hnv _ x u hx hu
    have hxy : ∀ y ∈ xs ++ ys, y.cells.length = sz := by
      intro y hy
      rcases List.mem_append.1 hy with h | h
      · exact hxs y h
      · exact (hys y h).1
    have hget : ∀ j, j < (xs.length + ys.length) * sz → (olds ++ news)[j]? = some ((olds ++ news).getD j undef) := by
      intro j hj
      rw [List.getD_eq_getElem?_getD, List.getElem?_eq_getElem (by omega)]
      rfl
    obtain ⟨hroomy, hgrowy⟩ := append_run (ty := ty) ht hz hsz hpos hzc (len := xs.length) (cap := cap) (base := base) hsrc hbytes (by omega) hold hol hcap0
    by_cases hfit : xs.length + ys.length ≤ cap
    · -- in place
      rcases hmode with ⟨i, c, rfl, hcap, rfl, hcc, hlen', hIold⟩ | hfull
      · have hM : M[i]? = some .tail := by
          simp only [tagOk] at htg
          split at htg
          · assumption
          · cases htg
        have hal : AObj.alive G i .tail := by show G.cap i ≠ none; rw [hcap]; simp
        obtain ⟨a, T, q1, q2, q3⟩ := hR.obj i _ hM c hcap
        have hin : (xs.length + ys.length) * sz ≤ a.size := by rw [q2, ← hcc]; exact Nat.mul_le_mul_right _ hfit
        rw [Nat.add_mul] at hin
        have hrun := hroomy hfit (G.φ i) 0 rfl (fun j hj => by rw [cell_of_row w _ _ a T _ q1, Array.getElem?_eq_getElem (by omega)]; rfl) (fun j hj => frozen_of_row w _ _ a T q1)
        rw [Nat.zero_add] at hrun
        -- the world behind the write
        have hfree := free_of_gone hR hM hal
        have hR1 : Rel G (M.set i .gone) (w.setCells (G.φ i) (xs.length * sz) news) := (hR.drop i).write news (hR.new i _ hM hal).1 hfree (fun q h1 h2 => q3 q (by omega))
        obtain ⟨a', r1, r2, r3, r4⟩ := setCells_heap (G.φ i) T news (xs.length * sz) w a q1
        have hcell : ∀ j, j < (xs.length + ys.length) * sz → (w.setCells (G.φ i) (xs.length * sz) news).cell? ⟨G.φ i, j, none⟩ = (olds ++ news)[j]? := by
          intro j hj
          rw [cell_of_row _ _ _ a' T _ r1]
          by_cases h : j < xs.length * sz
          · rw [r3 j (.inl h), List.getElem?_append_left (by omega)]
            have := hR.imm _ _ _ (hIold j _ (List.getElem?_eq_getElem (by omega)))
            rw [cell_of_row w _ _ a T _ q1] at this
            rw [this, List.getElem?_eq_getElem]
          · have := r4 (j - xs.length * sz) (by omega) (by rw [Nat.add_mul] at hj; omega)
            rw [show xs.length * sz + (j - xs.length * sz) = j by omega] at this
            rw [this, List.getElem?_append_right (by omega), hol]
        obtain ⟨hle1, hR2⟩ := hR1.extI (b := G.φ i) (f := fun q => if q < (xs.length + ys.length) * sz then (olds ++ news)[q]? else none) hfree
          (fun q v hq => by
            have hq' : (if q < (xs.length + ys.length) * sz then (olds ++ news)[q]? else none) = some v := hq
            split at hq'
            · rename_i h; rw [hcell q h]; exact hq'
            · cases hq')
          (fun q v hq => by
            have hq' : q < G.len i := by
              rcases Nat.lt_or_ge q (G.len i) with h | h
              · exact h
              · rw [q3 q h] at hq; cases hq
            have h1 := hR.imm _ _ _ hq
            rw [hlen'] at hq'
            have h2 := hIold q _ (List.getElem?_eq_getElem (show q < olds.length by omega))
            rw [h2] at hq
            show (if q < (xs.length + ys.length) * sz then (olds ++ news)[q]? else none) = some v
            rw [if_pos (by rw [Nat.add_mul]; omega), List.getElem?_append_left (by omega), List.getElem?_eq_getElem (by omega)]
            exact hq)
        have hR3 := hR2.pushTail (G.φ i) ((xs.length + ys.length) * sz) a' T (hR.new i _ hM hal).1 r1 hfree (fun q hq => by
          show (if G.φ i = G.φ i then (if q < (xs.length + ys.length) * sz then (olds ++ news)[q]? else none) else G.I (G.φ i) q) = none
          rw [if_pos rfl, if_neg (by omega)])
        have hle2 := hle1.trans (Gh.push_le (G.withI (G.φ i) (fun q => if q < (xs.length + ys.length) * sz then (olds ++ news)[q]? else none)) (G.φ i) (some a'.size) ((xs.length + ys.length) * sz))
        refine ⟨_, _, _, hrun, hle2, hR3, ?_⟩
        have := VR.list (G := (G.withI (G.φ i) (fun q => if q < (xs.length + ys.length) * sz then (olds ++ news)[q]? else none)).push (G.φ i) (some a'.size) ((xs.length + ys.length) * sz)) (.own M.length) (xs ++ ys) (G.φ i) 0 cap sz
          (fun j => (olds ++ news).getD j undef) (by simp; omega) hpos hxy (fun j hj => ?_) (fun j x hx => ?_) (by simpa using hfit) ?_
        · simpa using this
        · rw [List.length_append] at hj
          show (if G.φ i = G.φ i then (if 0 + j < (xs.length + ys.length) * sz then (olds ++ news)[0 + j]? else none) else G.I (G.φ i) (0 + j)) = _
          rw [if_pos rfl, Nat.zero_add, if_pos hj]
          exact hget j hj
        · have hj : j < (xs.length + ys.length) * sz := by
            have := (List.getElem?_eq_some_iff.1 hx).1
            rw [cellsL_length hxy, List.length_append] at this
            exact this
          exact (hcv j x _ hx (hget j hj)).mono hle2
        · rw [hn]
          refine ⟨Nat.lt_succ_self _, ?_⟩
          have e1 := Gh.push_cap (G.withI (G.φ i) (fun q => if q < (xs.length + ys.length) * sz then (olds ++ news)[q]? else none)) (G.φ i) (some a'.size) ((xs.length + ys.length) * sz)
          have e2 := Gh.push_φ (G.withI (G.φ i) (fun q => if q < (xs.length + ys.length) * sz then (olds ++ news)[q]? else none)) (G.φ i) (some a'.size) ((xs.length + ys.length) * sz)
          have e3 := Gh.push_len (G.withI (G.φ i) (fun q => if q < (xs.length + ys.length) * sz then (olds ++ news)[q]? else none)) (G.φ i) (some a'.size) ((xs.length + ys.length) * sz)
          have e0 : (G.withI (G.φ i) (fun q => if q < (xs.length + ys.length) * sz then (olds ++ news)[q]? else none)).n = G.n := rfl
          rw [e0] at e1 e2 e3
          rw [e1, e2, e3]
          exact ⟨rfl, rfl, by rw [r2, q2]; exact hcc, by rw [List.length_append]⟩
      · omega
    · -- a new row
      obtain ⟨nc, a, s1, s2, s3, hrun⟩ := hgrowy (by omega)
      have hR1 := (hR.dropTag tg).drew.alloc (.cells a e)
      have hb0 : (w.drew.alloc (.cells a e)).heap[w.heap.size]? = some (.cells a e (0, 0)) := heap_alloc_new w.drew _
      have hfree : ∀ i o, (dropTag tg M)[i]? = some o → o.alive G i → G.φ i ≠ w.heap.size := fun i o h hal => Nat.ne_of_lt ((hR.dropTag tg).new i o h hal).2
      have hsize : (xs.length + ys.length) * sz ≤ a.size := by rw [s2]; exact Nat.mul_le_mul_right _ s1
      obtain ⟨hle1, hR2⟩ := hR1.extI (b := w.heap.size) (f := fun q => if q < (xs.length + ys.length) * sz then (olds ++ news)[q]? else none) hfree
        (fun q v hq => by
          have hq' : (if q < (xs.length + ys.length) * sz then (olds ++ news)[q]? else none) = some v := hq
          split at hq'
          · rename_i h
            rw [cell_of_row _ _ _ a e _ hb0, s3 q h]
            exact hq'
          · cases hq')
        (fun q v hq => by rw [hR.I_none _ _ (Nat.le_refl _)] at hq; cases hq)
      have hR3 := hR2.pushTail w.heap.size ((xs.length + ys.length) * sz) a e hR.below.size hb0 hfree (fun q hq => by
        show (if w.heap.size = w.heap.size then (if q < (xs.length + ys.length) * sz then (olds ++ news)[q]? else none) else G.I w.heap.size q) = none
        rw [if_pos rfl, if_neg (by omega)])
      have hle2 := hle1.trans (Gh.push_le (G.withI w.heap.size (fun q => if q < (xs.length + ys.length) * sz then (olds ++ news)[q]? else none)) w.heap.size (some a.size) ((xs.length + ys.length) * sz))
      refine ⟨_, _, _, hrun, hle2, hR3, ?_⟩
      have := VR.list (G := (G.withI w.heap.size (fun q => if q < (xs.length + ys.length) * sz then (olds ++ news)[q]? else none)).push w.heap.size (some a.size) ((xs.length + ys.length) * sz)) (.own M.length) (xs ++ ys) w.heap.size 0 nc sz
        (fun j => (olds ++ news).getD j undef) (by simp; omega) hpos hxy (fun j hj => ?_) (fun j x hx => ?_) (by simpa using s1) ?_
      · simpa using this
      · rw [List.length_append] at hj
        show (if w.heap.size = w.heap.size then (if 0 + j < (xs.length + ys.length) * sz then (olds ++ news)[0 + j]? else none) else G.I w.heap.size (0 + j)) = _
        rw [if_pos rfl, Nat.zero_add, if_pos hj]
        exact hget j hj
      · have hj : j < (xs.length + ys.length) * sz := by
          have := (List.getElem?_eq_some_iff.1 hx).1
          rw [cellsL_length hxy, List.length_append] at this
          exact this
        exact (hcv j x _ hx (hget j hj)).mono hle2
      · rw [hn]
        refine ⟨Nat.lt_succ_self _, ?_⟩
        have e1 := Gh.push_cap (G.withI w.heap.size (fun q => if q < (xs.length + ys.length) * sz then (olds ++ news)[q]? else none)) w.heap.size (some a.size) ((xs.length + ys.length) * sz)
        have e2 := Gh.push_φ (G.withI w.heap.size (fun q => if q < (xs.length + ys.length) * sz then (olds ++ news)[q]? else none)) w.heap.size (some a.size) ((xs.length + ys.length) * sz)
        have e3 := Gh.push_len (G.withI w.heap.size (fun q => if q < (xs.length + ys.length) * sz then (olds ++ news)[q]? else none)) w.heap.size (some a.size) ((xs.length + ys.length) * sz)
        have e0 : (G.withI w.heap.size (fun q => if q < (xs.length + ys.length) * sz then (olds ++ news)[q]? else none)).n = G.n := rfl
        rw [e0] at e1 e2 e3
        rw [e1, e2, e3]
        exact ⟨rfl, rfl, s2.symm, by rw [List.length_append]⟩


/-- A row that may be written: what lies in it ahead of what is appended, and the memory without it. -/
def rowA (M : AMem) (sz : Nat) : V → Option (List V × Nat × AMem)
  | .list .full [] => some ([], 0, M)
  | .arr i 0 len sz' => match M[i]? with
    | some (.cells cs) => if sz' = sz ∧ len * sz ≤ cs.length then some (cs.take (len * sz), len, M.set i .gone) else none
    | _ => none
  | _ => none

theorem append_arr {P : Program} {G : Gh} {M : AMem} {w : World} (hR : Rel G M w) {t tx ty e e' : TypeId} {sz : Nat} {z : V} (ht : elT P t = some e) (hk : P.underlying tx = some (.slice e')) (hz : zeroT P e = some z) (hsz : szT P e = sz) (hpos : 0 < sz)
    (hzc : z.cells.length = sz) {bv : V} {olds' : List V} {len : Nat} {M0 : AMem} {ys : List V} {b v : Value} {s : V} (hb : VR G bv b) (hrow : rowA M sz bv = some (olds', len, M0)) (hv : VR G s v) (hs : srcA M s = some ys) (hys : ∀ y ∈ ys, y.cells.length = sz ∧ y.okv = true)
    (hby : byT P e ≤ 2048) (hl : len + ys.length ≤ 1073741824) :
    ∃ val w' G', (Builtin.append_ #[t, tx] ty #[b, v]).run P w = .ok val w' ∧ G.le G' ∧ Rel G' (M0 ++ [.cells (olds' ++ cellsL ys)]) w' ∧ VR G' (.arr M.length 0 (len + ys.length) sz) val := by
  obtain ⟨news, hnl, hnv, hsrc⟩ := src_sound hR hv hs hpos hys hk
  have hbytes : (len + ys.length) * byT P e ≤ 140737488355328 := by
    have := Nat.mul_le_mul hl hby
    omega
  have hn : M.length = G.n := hR.n
  have hlen : (cellsL ys).length = ys.length * sz := cellsL_length (fun y hy => (hys y hy).1)
  -- what lies there already
  have old : ∃ base cap olds, b = .slice base len cap ∧ len ≤ cap ∧ olds.length = len * sz ∧ olds'.length = len * sz ∧ Rel G M0 w ∧ M0.length = M.length ∧ (∀ (j : Nat) (x : V) (u : Value), olds'[j]? = some x → olds[j]? = some u → VR G x u) ∧
      (∃ bo, (base = some bo ∧ ∀ (j : Nat) (u : Value), olds[j]? = some u → w.cell? (bo.add j) = some u) ∨ (base = none ∧ olds = [])) ∧ (base = none → cap = 0) ∧
      ((∃ g a T, base = some ⟨g, 0, none⟩ ∧ w.heap[g]? = some (.cells a T (0, 0)) ∧ cap * sz ≤ a.size ∧ (∀ q, G.I g q = none) ∧ G.w0.heap.size ≤ g ∧ (∀ i o, M0[i]? = some o → o.alive G i → G.φ i ≠ g) ∧ ∀ (j : Nat) (u : Value), olds[j]? = some u → (a : Array Value)[j]? = some u) ∨
       (cap = 0 ∧ len = 0)) := by
    cases hb with
    | nil t a cap h1 h2 =>
      cases t with
      | full =>
        simp only [rowA] at hrow
        injection hrow with hrow
        injection hrow with e1 hrow
        injection hrow with e2 e3
        subst e1; subst e2; subst e3
        have hc0 : cap = 0 := by
          rcases h1 with h1 | h1
          · cases h1
          · exact h1
        subst hc0
        refine ⟨a, 0, [], rfl, Nat.le_refl _, by simp, by simp, hR, rfl, fun j x u hx => by simp at hx, ?_, fun _ => rfl, .inr ⟨rfl, rfl⟩⟩
        cases a with
        | none => exact ⟨⟨0, 0, none⟩, .inr ⟨rfl, rfl⟩⟩
        | some a => exact ⟨a, .inl ⟨rfl, fun j u hu => by simp at hu⟩⟩
      | dull => simp [rowA] at hrow
      | own i => simp [rowA] at hrow
    | list t xs b o cap sz' val g1 g2 g3 g4 g5 g6 g7 =>
      cases xs with
      | nil => simp at g1
      | cons x xs => simp [rowA] at hrow
    | arr i off len' sz' cap c hi hc hlc hcap =>
      cases off with
      | succ off => simp [rowA] at hrow
      | zero =>
        simp only [rowA] at hrow
        split at hrow
        · rename_i cs hM
          split at hrow
          · rename_i hle
            injection hrow with hrow
            injection hrow with e1 hrow
            injection hrow with e2 e3
            obtain ⟨rfl, hle⟩ := hle
            subst e2
            obtain ⟨g0, _⟩ | ⟨a, T, q1, q2, q3, q4, q5⟩ := hR.obj i _ hM
            · rw [hc] at g0; cases g0
            have hal : AObj.alive G i (.cells cs) := by show G.cap i ≠ none; rw [hc]; simp
            rw [hc] at q2
            injection q2 with q2
            have hfit : len' * sz' ≤ a.size := by omega
            have hol : (a.toList.take (len' * sz')).length = len' * sz' := by simp; omega
            have hat : ∀ (j : Nat) (u : Value), (a.toList.take (len' * sz'))[j]? = some u → a[j]? = some u := by
              intro j u hu
              rw [List.getElem?_take] at hu
              split at hu
              · simpa using hu
              · cases hu
            refine ⟨some ⟨G.φ i, 0, none⟩, cap, a.toList.take (len' * sz'), rfl, hlc, hol, by rw [← e1]; simp; omega, by rw [← e3]; exact hR.drop i, by rw [← e3]; simp, fun j x u hx hu => ?_, ⟨⟨G.φ i, 0, none⟩, .inl ⟨rfl, fun j u hu => ?_⟩⟩, fun h => (by cases h),
              .inl ⟨G.φ i, a, T, rfl, q1, by omega, q5, (hR.new i _ hM hal).1, ?_, hat⟩⟩
            · rw [← e1, List.getElem?_take] at hx
              split at hx
              · exact q4 j x u hx (hat j u hu)
              · cases hx
            · rw [Addr.add_mid, cell_of_row w _ _ a T _ q1, Nat.zero_add]
              exact hat j u hu
            · rw [← e3]
              exact free_of_gone hR hM hal
          · cases hrow
        · cases hrow
    | arrNil i sz' a hi hc =>
      simp only [rowA] at hrow
      split at hrow
      · rename_i cs hM
        split at hrow
        · rename_i hle
          injection hrow with hrow
          injection hrow with e1 hrow
          injection hrow with e2 e3
          subst e2
          refine ⟨a, 0, [], rfl, Nat.le_refl _, by simp, by rw [← e1]; simp, by rw [← e3]; exact hR.drop i, by rw [← e3]; simp, fun j x u hx hu => by simp at hu, ?_, fun _ => rfl, .inr ⟨rfl, rfl⟩⟩
          cases a with
          | none => exact ⟨⟨0, 0, none⟩, .inr ⟨rfl, rfl⟩⟩
          | some a => exact ⟨a, .inl ⟨rfl, fun j u hu => by simp at hu⟩⟩
        · cases hrow
      · cases hrow
    | _ => simp [rowA] at hrow
  obtain ⟨base, cap, olds, rfl, hle, hol, hol', hR0, hM0, hov, hold, hcap0, hmode⟩ := old
  have hn0 : M0.length = G.n := by rw [hM0, hn]
  have hcv : ∀ (j : Nat) (x : V) (u : Value), (olds' ++ cellsL ys)[j]? = some x → (olds ++ news)[j]? = some u → VR G x u := by
    intro j x u hx hu
    rw [List.getElem?_append] at hu hx
    rw [hol'] at hx
    rw [hol] at hu
    split at hx
    · rename_i hj
      rw [if_pos hj] at hu
      exact hov j x u hx hu
    · rename_i hj
      rw [if_neg hj] at hu
      exact hnv _ x u hx hu
  have hcl : (olds' ++ cellsL ys).length = (len + ys.length) * sz := by rw [List.length_append, hol', hlen, Nat.add_mul]
  have hcl2 : (olds ++ news).length = (len + ys.length) * sz := by rw [List.length_append, hol, hnl, Nat.add_mul]
  obtain ⟨hroomy, hgrowy⟩ := append_run (ty := ty) ht hz hsz hpos hzc (len := len) (cap := cap) (base := base) hsrc hbytes (by omega) hold hol hcap0
  by_cases hfit : len + ys.length ≤ cap
  · rcases hmode with ⟨g, a, T, rfl, q1, q2, q3, q4, q5, q6⟩ | ⟨hc, hbl⟩
    · have hin : (len + ys.length) * sz ≤ a.size := Nat.le_trans (Nat.mul_le_mul_right _ hfit) q2
      rw [Nat.add_mul] at hin
      have hrun := hroomy hfit g 0 rfl (fun j hj => by rw [cell_of_row w _ _ a T _ q1, Array.getElem?_eq_getElem (by omega)]; rfl) (fun j hj => frozen_of_row w _ _ a T q1)
      rw [Nat.zero_add] at hrun
      have hR1 : Rel G M0 (w.setCells g (len * sz) news) := hR0.write news q4 q5 (fun q _ _ => q3 q)
      obtain ⟨a', r1, r2, r3, r4⟩ := setCells_heap g T news (len * sz) w a q1
      have hlt : g < (w.setCells g (len * sz) news).heap.size := (Array.getElem?_eq_some_iff.1 r1).1
      have hR2 := hR1.push (.cells (olds' ++ cellsL ys)) g (some a'.size) 0 (fun _ => ⟨q4, hlt⟩) (fun _ => q5)
        (.inr ⟨a', T, by rw [Gh.push_φ]; exact r1, by simp, by rw [hcl, Nat.add_mul, r2]; exact hin, fun j x u hx hu => (hcv j x u hx ?_).mono (Gh.push_le _ _ _ _), fun q => by rw [Gh.push_φ]; exact q3 q⟩)
      · refine ⟨_, _, _, hrun, Gh.push_le _ _ _ _, hR2, ?_⟩
        have := VR.arr (G := G.push g (some a'.size) 0) M.length 0 (len + ys.length) sz cap a'.size (by rw [hn]; exact Nat.lt_succ_self _) (by rw [hn]; exact Gh.push_cap _ _ _ _) hfit (by rw [r2]; omega)
        rw [hn, Gh.push_φ] at this
        rw [hn]
        exact this
      · have hj : j < (len + ys.length) * sz := by
          have := (List.getElem?_eq_some_iff.1 hx).1
          omega
        by_cases h : j < len * sz
        · rw [List.getElem?_append_left (by omega), List.getElem?_eq_getElem (by omega)]
          rw [r3 j (.inl h), q6 j _ (List.getElem?_eq_getElem (show j < olds.length by omega))] at hu
          exact hu
        · have := r4 (j - len * sz) (by omega) (by rw [Nat.add_mul] at hj; omega)
          rw [show len * sz + (j - len * sz) = j by omega] at this
          rw [List.getElem?_append_right (by omega), hol, ← this]
          exact hu
    · have hm : ys.length = 0 := by omega
      obtain rfl : ys = [] := List.eq_nil_of_length_eq_zero hm
      obtain rfl : news = [] := List.eq_nil_of_length_eq_zero (by simpa using hnl)
      have hs0 : Src P sz tx v 0 [] w := hsrc
      subst hc; subst hbl
      have ho' : olds' = [] := List.eq_nil_of_length_eq_zero (by simpa using hol')
      have hR2 := hR0.push (.cells (olds' ++ cellsL [])) 0 none 0 (fun h => absurd (Gh.push_cap _ _ _ _) h) (fun h => absurd (Gh.push_cap _ _ _ _) h) (.inl ⟨Gh.push_cap _ _ _ _, by simp [ho']⟩)
      have hrun : (Builtin.append_ #[t, tx] ty #[.slice base 0 0, v]).run P w = .ok (.slice base 0 0) w := by
        cases base with
        | none => exact append_none ht hsz hpos hs0
        | some a =>
          have ht' := elT_some ht
          obtain ⟨i, hi, hisz⟩ := info_of (P := P) (t := e) (by omega)
          rw [hsz] at hisz
          subst hisz
          rcases hs0.kind with ⟨e', hk⟩ | hk <;> simp [Builtin.append_, run_underlying ht', run_underlying hk, sizeOf, typeInfo, hi, hs0.len, hs0.cells, storeCells]
      exact ⟨_, _, _, hrun, Gh.push_le _ _ _ _, hR2, .arrNil M.length sz base (by rw [hn]; exact Nat.lt_succ_self _) (by rw [hn]; exact Gh.push_cap _ _ _ _)⟩
  · -- a new row
    obtain ⟨nc, a, s1, s2, s3, hrun⟩ := hgrowy (by omega)
    have hR1 := hR0.drew.alloc (.cells a e)
    have hb0 : (w.drew.alloc (.cells a e)).heap[w.heap.size]? = some (.cells a e (0, 0)) := heap_alloc_new w.drew _
    have hfree : ∀ i o, M0[i]? = some o → o.alive G i → G.φ i ≠ w.heap.size := fun i o h hal => Nat.ne_of_lt (hR0.new i o h hal).2
    have hsize : (len + ys.length) * sz ≤ a.size := by rw [s2]; exact Nat.mul_le_mul_right _ s1
    have hR2 := hR1.push (.cells (olds' ++ cellsL ys)) w.heap.size (some a.size) 0 (fun _ => ⟨hR.below.size, (Array.getElem?_eq_some_iff.1 hb0).1⟩) (fun _ => hfree)
      (.inr ⟨a, e, by rw [Gh.push_φ]; exact hb0, by simp, by rw [hcl]; exact hsize, fun j x u hx hu => (hcv j x u hx (by
        have hj : j < (len + ys.length) * sz := by
          have := (List.getElem?_eq_some_iff.1 hx).1
          omega
        rw [← s3 j hj]; exact hu)).mono (Gh.push_le _ _ _ _), fun q => by rw [Gh.push_φ]; exact hR.I_none _ _ (Nat.le_refl _)⟩)
    refine ⟨_, _, _, hrun, Gh.push_le _ _ _ _, hR2, ?_⟩
    have := VR.arr (G := G.push w.heap.size (some a.size) 0) M.length 0 (len + ys.length) sz nc a.size (by rw [hn]; exact Nat.lt_succ_self _) (by rw [hn]; exact Gh.push_cap _ _ _ _) s1 (by rw [s2]; omega)
    rw [hn, Gh.push_φ] at this
    rw [hn]
    exact this

end Go.Ax

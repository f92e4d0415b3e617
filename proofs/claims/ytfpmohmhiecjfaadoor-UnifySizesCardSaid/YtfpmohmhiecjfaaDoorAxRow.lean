import Derived.Test.YtfpmohmhiecjfaaDoorAx11
import Derived.ProofKit
import Derived.Deep.Slices
import Derived.SizedLaws
namespace Go.Ax
open Go.ChangeShapes Go.WideShapes Go.ChangeAt Go.RowKit

/-- The shapes of the arguments that a law takes. -/
inductive Sh where
  | int (k : IntKind)
  | bool
  | str
  | sl (e : Sh) (g : Bool)
  | st (fs : List Sh)

mutual
def Sh.size : Sh → Nat
  | .st fs => Sh.sizeL fs
  | _ => 1
def Sh.sizeL : List Sh → Nat
  | [] => 0
  | s :: ss => s.size + Sh.sizeL ss
end

mutual
def Sh.of (P : Program) : Sh → TypeId → Prop
  | .int k, t => P.underlying t = some (.int k)
  | .bool, t => P.underlying t = some .bool
  | .str, t => P.underlying t = some .string
  | .sl e g, t => ∃ te, P.underlying t = some (.slice te) ∧ P.cellsOf te = e.size ∧ 0 < e.size ∧ (g = false → e.size = 1) ∧ e.of P te ∧ 1 ≤ P.bytesOf te
  | .st ss, t => ∃ fs, P.underlying t = some (.struct fs) ∧ P.cellsOf t = Sh.sizeL ss ∧ Sh.ofL P ss fs.toList 0
def Sh.ofL (P : Program) : List Sh → List Field → Nat → Prop
  | [], [], _ => True
  | s :: ss, f :: fs, o => f.offset = o ∧ P.cellsOf f.type = s.size ∧ s.of P f.type ∧ Sh.ofL P ss fs (o + s.size)
  | _, _, _ => False
end

mutual
/-- What the cells of a shape are. -/
def Sh.Has : Sh → List V → Prop
  | .int k, vs => ∃ n, vs = [.prim (.int k n)] ∧ (Lit.int k n).wf = true
  | .bool, vs => ∃ b, vs = [.prim (.bool b)]
  | .str, vs => ∃ s : ByteArray, vs = [.prim (.string s)] ∧ s.size ≤ maxLen
  | .sl e g, vs => ∃ xs : List V, vs = [.list .dull xs] ∧ xs.length ≤ reachBytes ∧ ∀ x ∈ xs, ∃ cs, x = (if g then .agg cs else cs.getD 0 .junk) ∧ cs.length = e.size ∧ e.Has cs
  | .st ss, vs => Sh.HasL ss vs
def Sh.HasL : List Sh → List V → Prop
  | [], vs => vs = []
  | s :: ss, vs => ∃ a b, vs = a ++ b ∧ s.Has a ∧ Sh.HasL ss b
end

/-- The ghost of a call's begin: what is in memory stays. -/
def gh0 (w : World) : Gh := ⟨0, fun _ => 0, fun _ => none, fun _ => 0, fun b o => w.cell? ⟨b, o, none⟩, w⟩

theorem rel0 (w : World) : Rel (gh0 w) [] w :=
  ⟨rfl, Below.refl _ _, fun _ _ _ h => h, fun i o h => by simp at h, fun i j o o' h => by simp at h, fun i o h => by simp at h⟩

variable {H : Type} {enc : TypeId × Value → H} {P : Program} {w : World} {held : Bool}

def Std (G : Gh) (vs : List V) (cs : List Value) : Prop := vs.length = cs.length ∧ ∀ (j : Nat) (x : V) (v : Value), vs[j]? = some x → cs[j]? = some v → VR G x v

theorem Std.append {G : Gh} {a b : List V} {c d : List Value} (h : Std G a c) (k : Std G b d) : Std G (a ++ b) (c ++ d) := by
  refine ⟨by simp [h.1, k.1], fun j x v hx hv => ?_⟩
  by_cases hj : j < a.length
  · rw [List.getElem?_append_left hj] at hx
    rw [List.getElem?_append_left (by rw [← h.1]; exact hj)] at hv
    exact h.2 j x v hx hv
  · rw [List.getElem?_append_right (by omega)] at hx
    rw [List.getElem?_append_right (by rw [← h.1]; omega), ← h.1] at hv
    exact k.2 _ x v hx hv

theorem std1 {G : Gh} {x : V} {v : Value} (h : VR G x v) : Std G [x] [v] := by
  refine ⟨rfl, fun j y u hy hu => ?_⟩
  match j with
  | 0 => simp at hy hu; subst hy; subst hu; exact h
  | j + 1 => simp at hy

theorem cells_elem {st : Bool} {c : List V} {n : Nat} (hc : c.length = n) (h : st = false → n = 1) (hp : st = false → (c.getD 0 .junk).cells = [c.getD 0 .junk]) : (if st then V.agg c else c.getD 0 .junk).cells = c := by
  cases st with
  | true => rfl
  | false =>
    obtain rfl := h rfl
    match c, hc with
    | [x], _ => simpa using hp rfl

theorem Sh.one_cells : ∀ {e : Sh} {c : List V}, e.Has c → c.length = 1 → (∀ ss, e ≠ .st ss) → (c.getD 0 .junk).cells = [c.getD 0 .junk]
  | .int _, c, h, _, _ => by obtain ⟨n, rfl, _⟩ := h; rfl
  | .bool, c, h, _, _ => by obtain ⟨n, rfl⟩ := h; rfl
  | .str, c, h, _, _ => by obtain ⟨n, rfl, _⟩ := h; rfl
  | .sl _ _, c, h, _, _ => by obtain ⟨n, rfl, _⟩ := h; rfl
  | .st ss, c, _, _, h => (h ss rfl).elim

mutual
/-- Is the shape's mark for structs right everywhere? -/
def Sh.good : Sh → Bool
  | .sl e g => e.good && (match e with | .st _ => g | _ => !g)
  | .st ss => Sh.goodL ss
  | _ => true
def Sh.goodL : List Sh → Bool
  | [] => true
  | s :: ss => s.good && Sh.goodL ss
end

theorem choose_lt' {α : Type} [Inhabited α] {p : Nat → α → Prop} {n : Nat} (h : ∀ i, i < n → ∃ v, p i v) : ∃ f : Nat → α, ∀ i, i < n → p i (f i) := by
  classical
  exact ⟨fun i => if hi : i < n then (h i hi).choose else default, fun i hi => by simp only [dif_pos hi]; exact (h i hi).choose_spec⟩

theorem addr_add (b o k : Nat) : (⟨b, o, none⟩ : Addr).add k = ⟨b, o + k, none⟩ := by
  simp only [Addr.add]
  split <;> simp_all

theorem addr_add_add (a : Addr) (k j : Nat) : (a.add k).add j = a.add (k + j) := by
  simp only [Addr.add]
  by_cases hk : k = 0
  · subst hk; simp
  · by_cases hj : j = 0
    · subst hj; simp
    · simp [hk, hj, Nat.add_assoc]

theorem sl_of {e : Sh} {g : Bool} {a : Addr} {len cap : Nat} (hlc : len ≤ cap) (hmax : len ≤ reachBytes) (hz : 0 < e.size) (hst : g = false → e.size = 1) (hne : g = false → ∀ ss, e ≠ .st ss) (hspot : 0 < len → a.spot = none)
    (C : Nat → List V) (D : Nat → List Value) (hC : ∀ i, i < len → e.Has (C i) ∧ Std (gh0 w) (C i) (D i) ∧ (C i).length = e.size ∧ ∀ j, j < e.size → w.cell? (a.add (i * e.size + j)) = (D i)[j]?) :
    ∃ vs, (Sh.sl e g).Has vs ∧ Std (gh0 w) vs [.slice (some a) len cap] := by
  have hcells : ∀ i, i < len → (if g then V.agg (C i) else (C i).getD 0 .junk).cells = C i := fun i hi =>
    cells_elem (hC i hi).2.2.1 hst fun h => Sh.one_cells (hC i hi).1 (by rw [(hC i hi).2.2.1]; exact hst h) (hne h)
  refine ⟨[.list .dull ((List.range len).map fun i => if g then .agg (C i) else (C i).getD 0 .junk)], ⟨_, rfl, by simp; omega, fun x hx => ?_⟩, std1 ?_⟩
  · obtain ⟨i, hi, rfl⟩ := List.mem_map.1 hx
    have hi : i < len := by simpa using hi
    exact ⟨C i, rfl, (hC i hi).2.2.1, (hC i hi).1⟩
  · by_cases hl : len = 0
    · subst hl
      exact .nil _ _ _ (.inl rfl) (fun i h => by cases h)
    have hs := hspot (by omega)
    obtain ⟨b, o, sp⟩ := a
    simp only at hs
    subst hs
    have hL : ((List.range len).map fun i => if g then V.agg (C i) else (C i).getD 0 .junk).length = len := by simp
    have hsz : ∀ x ∈ (List.range len).map (fun i => if g then V.agg (C i) else (C i).getD 0 .junk), x.cells.length = e.size := by
      intro x hx
      obtain ⟨i, hi, rfl⟩ := List.mem_map.1 hx
      have hi : i < len := by simpa using hi
      rw [hcells i hi]
      exact (hC i hi).2.2.1
    have key : ∀ i j, i < len → j < e.size → w.cell? ⟨b, o + (i * e.size + j), none⟩ = (D i)[j]? := fun i j hi hj => by
      have := (hC i hi).2.2.2 j hj
      rwa [addr_add] at this
    have := VR.list (G := gh0 w) .dull ((List.range len).map fun i => if g then .agg (C i) else (C i).getD 0 .junk) b o cap e.size (fun j => (w.cell? ⟨b, o + j, none⟩).getD default) (by omega) hz hsz (fun j hj => ?_) (fun j x hx => ?_) (by omega) trivial
    · rw [hL] at this; exact this
    · rw [hL] at hj
      have hj2 : j / e.size < len := Nat.div_lt_of_lt_mul (by rw [Nat.mul_comm]; exact hj)
      have hj3 : j % e.size < e.size := Nat.mod_lt _ hz
      have e1 : j / e.size * e.size + j % e.size = j := by rw [Nat.mul_comm]; exact Nat.div_add_mod j e.size
      have k1 := key _ _ hj2 hj3
      rw [e1] at k1
      have hd : j % e.size < (D (j / e.size)).length := by rw [← (hC _ hj2).2.1.1, (hC _ hj2).2.2.1]; exact hj3
      rw [List.getElem?_eq_getElem hd] at k1
      show w.cell? _ = some _
      rw [k1]; rfl
    · have hjl : j < (cellsL ((List.range len).map fun i => if g then V.agg (C i) else (C i).getD 0 .junk)).length := (List.getElem?_eq_some_iff.1 hx).1
      rw [cellsL_length hsz, hL] at hjl
      have hj2 : j / e.size < len := Nat.div_lt_of_lt_mul (by rw [Nat.mul_comm]; exact hjl)
      have hj3 : j % e.size < e.size := Nat.mod_lt _ hz
      have e1 : j / e.size * e.size + j % e.size = j := by rw [Nat.mul_comm]; exact Nat.div_add_mod j e.size
      have k1 := key _ _ hj2 hj3
      rw [e1] at k1
      have hd : j % e.size < (D (j / e.size)).length := by rw [← (hC _ hj2).2.1.1, (hC _ hj2).2.2.1]; exact hj3
      rw [List.getElem?_eq_getElem hd] at k1
      rw [k1]
      have := cellsL_at hsz (i := j / e.size) (x := if g then V.agg (C (j / e.size)) else (C (j / e.size)).getD 0 .junk) (by simp [hj2]) (j % e.size) hj3
      rw [e1, hcells _ hj2] at this
      rw [this] at hx
      exact (hC _ hj2).2.1.2 _ _ _ hx (List.getElem?_eq_getElem hd)

theorem weightsAll_mem {e : TypeId} {d : DataW H} {n : Nat} : ∀ {l : List (DataW H)}, d ∈ l → n ∈ d.weights P e → n ∈ DataW.weightsAll P e l
  | [], h, _ => by cases h
  | a :: l, h, hn => by
    simp only [DataW.weightsAll]
    rcases List.mem_cons.1 h with rfl | h
    · exact List.mem_append_left _ hn
    · exact List.mem_append_right _ (weightsAll_mem h hn)

theorem weightsEach_left {n : Nat} : ∀ {ts us : List TypeId} {ds : List (DataW H)}, ts.length = ds.length → n ∈ DataW.weightsEach P ts ds → n ∈ DataW.weightsEach P (ts ++ us) ds
  | [], us, [], _, h => by simp [DataW.weightsEach] at h
  | t :: ts, us, d :: ds, hl, h => by
    simp only [List.cons_append, DataW.weightsEach] at h ⊢
    rcases List.mem_append.1 h with h | h
    · exact List.mem_append_left _ h
    · exact List.mem_append_right _ (weightsEach_left (by simpa using hl) h)
  | [], _, _ :: _, hl, _ => by simp at hl
  | _ :: _, _, [], hl, _ => by simp at hl

mutual
/-- WHAT AN ARGUMENT READS AS STANDS FOR A TREE OF ITS SHAPE. -/
theorem open_sh : ∀ (s : Sh) {t : TypeId} {fuel : Nat} {cs : List Value} {x : DataW H × List MemPlace}, s.good = true → s.of P t → cs.length = s.size → DataW.trod enc P w 0 (fun _ => true) held fuel t cs = some x → (∀ n ∈ x.1.weights P t, n ≤ reachBytes) →
    ∃ vs, s.Has vs ∧ Std (gh0 w) vs cs
  | .int k, t, fuel, cs, x, _, ht, _, h, _ => by
    obtain ⟨n, rfl, _, hw⟩ := DataW.trod_int ht h
    exact ⟨_, ⟨n, rfl, hw⟩, std1 (.prim _)⟩
  | .bool, t, fuel, cs, x, _, ht, _, h, _ => by
    obtain ⟨n, rfl, _⟩ := DataW.trod_bool ht h
    exact ⟨_, ⟨n, rfl⟩, std1 (.prim _)⟩
  | .str, t, fuel, cs, x, _, ht, _, h, _ => by
    obtain ⟨n, rfl, _, hw⟩ := DataW.trod_string ht h
    exact ⟨_, ⟨n, rfl, hw⟩, std1 (.prim _)⟩
  | .sl e g, t, fuel, cs, x, hg, ht, _, h, hw => by
    obtain ⟨te, h1, h2, h3, h4, h5, hb1⟩ := ht
    simp only [Sh.good, Bool.and_eq_true] at hg
    have hne : g = false → ∀ ss, e ≠ .st ss := by
      rintro rfl ss rfl
      simp at hg
    rcases Go.Deep.open_slice h1 h with ⟨rfl, _⟩ | ⟨a, len, cap, m, n, D, Pl, rfl, _, hl, hm, hmm, rfl, hx⟩
    · refine ⟨[.list .dull []], ⟨[], rfl, Nat.zero_le _, fun x hx => by simp at hx⟩, std1 ?_⟩
      exact .nil _ _ _ (.inl rfl) (fun i h => by cases h)
    · simp only [if_true] at hmm
      subst hmm
      have hlen : len ≤ reachBytes := by
        have := hw (_ * P.bytesOf te) (by simp only [DataW.weights, h1]; exact List.mem_cons_self)
        simp only [List.length_map, List.length_range] at this
        exact Nat.le_trans (Nat.le_trans (Nat.le_add_right len _) (Nat.le_mul_of_pos_right _ hb1)) this
      have step : ∀ i, i < len → ∃ c : List V × List Value, e.Has c.1 ∧ Std (gh0 w) c.1 c.2 ∧ c.1.length = e.size ∧ ∀ j, j < e.size → w.cell? (a.add (i * e.size + j)) = c.2[j]? := by
        intro i hi
        obtain ⟨cs', k1, k2⟩ := hx i (by omega)
        rw [h2] at k1
        obtain ⟨_, k3, k4⟩ := World.cells?_some k1
        obtain ⟨vs, k5, k6⟩ := open_sh e hg.1 h5 k3 k2 fun n hn => hw n (by
          simp only [DataW.weights, h1]
          exact List.mem_cons_of_mem _ (List.mem_append_left _ (weightsAll_mem (List.mem_map.2 ⟨i, List.mem_range.2 hi, rfl⟩) hn)))
        refine ⟨(vs, cs'), k5, k6, by rw [k6.1, k3], fun j hj => ?_⟩
        have := k4 j hj
        rw [← this, addr_add_add]
      obtain ⟨f, hf⟩ := choose_lt' step
      refine sl_of hl hlen h3 h4 hne (fun hp => ?_) (fun i => (f i).1) (fun i => (f i).2) hf
      have := (hf 0 hp).2.2.2 0 h3
      have hd : 0 < (f 0).2.length := by rw [← (hf 0 hp).2.1.1, (hf 0 hp).2.2.1]; exact h3
      rw [List.getElem?_eq_getElem hd] at this
      simpa [Addr.add] using World.cell?_spot this
  | .st ss, t, fuel, cs, x, hg, ht, hl, h, hw => by
    obtain ⟨fs, h1, h2, h3⟩ := ht
    obtain ⟨xs, n, _, hx, h4, h5, h6⟩ := DataW.trod_struct h1 h
    subst hx
    have := open_shL ss (fs := fs.toList) (o := 0) (cs := cs) (n := n) (xs := xs) hg h3 (by rw [h4, h2]; simp) (by rw [h5]; simp) (fun i f hi => h6 i f (by simpa using hi)) (fun i f y hi hy n hn => hw n (by
      simp only [DataW.weights, h1]
      exact DataW.weights_mem_each (j := i) (t := f.type) (d := y.1) (by rw [List.getElem?_map, hi]; rfl) (by rw [List.getElem?_map, hy]; rfl) n hn))
    rw [List.drop_zero] at this
    exact this
theorem open_shL : ∀ (ss : List Sh) {fs : List Field} {o n : Nat} {cs : List Value} {xs : List (DataW H × List MemPlace)}, Sh.goodL ss = true → Sh.ofL P ss fs o → cs.length = o + Sh.sizeL ss → xs.length = fs.length →
    (∀ (i : Nat) (f : Field), fs[i]? = some f → DataW.trod enc P w 0 (fun _ => true) held n f.type ((cs.drop f.offset).take (P.cellsOf f.type)) = xs[i]?) →
    (∀ (i : Nat) (f : Field) (y : DataW H × List MemPlace), fs[i]? = some f → xs[i]? = some y → ∀ n ∈ y.1.weights P f.type, n ≤ reachBytes) → ∃ vs, Sh.HasL ss vs ∧ Std (gh0 w) vs (cs.drop o)
  | [], [], o, n, cs, xs, _, _, hl, _, _, _ => ⟨[], rfl, by
      have : cs.drop o = [] := by rw [List.drop_eq_nil_iff]; simp [Sh.sizeL] at hl; omega
      rw [this]
      exact ⟨rfl, fun j x v hx => by simp at hx⟩⟩
  | s :: ss, f :: fs, o, n, cs, xs, hg, hs, hl, hx, h, hw => by
    obtain ⟨h1, h2, h3, h4⟩ := hs
    simp only [Sh.goodL, Bool.and_eq_true] at hg
    simp only [Sh.sizeL] at hl
    match xs, hx, h, hw with
    | x :: xs, hx, h, hw =>
      have k := h 0 f rfl
      rw [h1, h2] at k
      obtain ⟨a, a1, a2⟩ := open_sh s hg.1 h3 (by simp; omega) k (hw 0 f x rfl rfl)
      obtain ⟨b, b1, b2⟩ := open_shL ss (o := o + s.size) (cs := cs) hg.2 h4 (by omega) (by simpa using hx) (fun i f' hi => h (i + 1) f' hi) (fun i f' y hi hy => hw (i + 1) f' y hi hy)
      refine ⟨a ++ b, ⟨a, b, rfl, a1, b1⟩, ?_⟩
      have : cs.drop o = (cs.drop o).take s.size ++ cs.drop (o + s.size) := by
        rw [← List.drop_drop, List.take_append_drop]
      rw [this]
      exact a2.append b2
end

/-! ### The row -/
theorem below_trodAll (hl : laidOutB P = true) {W W' : World} (hb : Below W.heap.size W W') : ∀ (ts : List TypeId) (vs : List Value) (ds : List (DataW H)) (ps : List MemPlace), (ts.all fun t => P.readableRec t && decide (t < P.types.size)) = true →
    DataW.TrodAll enc P W 0 (fun _ => true) true ts vs ds ps → (∀ x ∈ ps, x.block < W.heap.size) → DataW.TrodAll enc P W' 0 (fun b => decide (b < W.heap.size)) true ts vs ds ps
  | [], [], [], _, _, h, _ => h
  | t :: ts, v :: vs, d :: ds, ps, ht, h, hlt => by
    obtain ⟨p, q, h1, h2, rfl⟩ := h
    simp only [List.all_cons, Bool.and_eq_true, decide_eq_true_eq] at ht
    exact ⟨p, q, Below.trod hl ht.1.1 ht.1.2 h1 hb fun x hx => hlt x (by simp [hx]), below_trodAll hl hb ts vs ds q (by simpa using ht.2) h2 fun x hx => hlt x (by simp [hx]), rfl⟩
  | [], _ :: _, _, _, _, h, _ => h.elim
  | [], [], _ :: _, _, _, h, _ => h.elim
  | _ :: _, [], _, _, _, h, _ => h.elim
  | _ :: _, _ :: _, [], _, _, h, _ => h.elim

def Sh.ofAll (P : Program) : List Sh → List TypeId → Prop
  | [], [] => True
  | s :: ss, t :: ts => s.of P t ∧ Sh.ofAll P ss ts
  | _, _ => False

/-- What a tree of a shape is, as one value. -/
def Sh.Val (s : Sh) (x : V) : Prop := ∃ cs, s.Has cs ∧ x = match s with | .st _ => .agg cs | _ => cs.getD 0 .junk

def Sh.ValAll : List Sh → List V → Prop
  | [], [] => True
  | s :: ss, x :: xs => s.Val x ∧ Sh.ValAll ss xs
  | _, _ => False

/-- The arguments' trees. -/
theorem open_args {W : World} {base : Nat} : ∀ (ts : List TypeId) (ss : List Sh) (vs : List Value) (ds : List (DataW H)) (ps : List MemPlace), (ss.all (·.good)) = true → Sh.ofAll P ss ts →
    (∀ (j : Nat) t v, ts[j]? = some t → vs[j]? = some v → Value.okWide P W .any base t v) →
    DataW.TrodAll enc P W 0 (fun _ => true) true ts vs ds ps → (∀ n ∈ DataW.weightsEach P ts ds, n ≤ reachBytes) →
    ∃ xs : List V, Sh.ValAll ss xs ∧ Std (gh0 W) xs vs
  | [], [], [], [], _, _, _, _, _, _ => ⟨[], trivial, rfl, fun j x v hx => by simp at hx⟩
  | t :: ts, s :: ss, v :: vs, d :: ds, ps, hg, ho, hv, h, hwt => by
    obtain ⟨p, q, h1, h2, rfl⟩ := h
    obtain ⟨ho1, ho2⟩ := ho
    simp only [List.all_cons, Bool.and_eq_true] at hg
    obtain ⟨xs, x1, x2⟩ := open_args ts ss vs ds q hg.2 ho2 (fun j t v ht hv' => hv (j + 1) t v ht hv') h2 (fun n hn => hwt n (by simp only [DataW.weightsEach]; exact List.mem_append_right _ hn))
    have hw1 : ∀ n ∈ d.weights P t, n ≤ reachBytes := fun n hn => hwt n (by simp only [DataW.weightsEach]; exact List.mem_append_left _ hn)
    obtain ⟨fuel, hf⟩ := h1
    have hv0 := hv 0 t v rfl rfl
    have one : ∀ (hs : ∀ ss', s ≠ .st ss') (c : Value), v.cells.toList = [c] → v = c → s.size = 1 → ∃ x, s.Val x ∧ VR (gh0 W) x v := by
      intro hs c hc hvc hz
      rw [hc] at hf
      obtain ⟨us, u1, u2⟩ := open_sh s hg.1 ho1 (by rw [hz]; rfl) hf hw1
      match us, u2 with
      | [u], u2 =>
        refine ⟨u, ⟨[u], u1, ?_⟩, ?_⟩
        · cases s <;> first | rfl | exact (hs _ rfl).elim
        · rw [hvc]; exact u2.2 0 u c rfl rfl
      | [], u2 => simp [Std] at u2
      | _ :: _ :: _, u2 => simp [Std] at u2
    have goal : ∃ x, s.Val x ∧ VR (gh0 W) x v := by
      cases s with
      | int k => obtain ⟨n, rfl⟩ := okWide_int ho1 hv0; exact one (by simp) _ rfl rfl rfl
      | bool => obtain ⟨n, rfl⟩ := okWide_bool ho1 hv0; exact one (by simp) _ rfl rfl rfl
      | str => obtain ⟨n, rfl⟩ := okWide_string ho1 hv0; exact one (by simp) _ rfl rfl rfl
      | sl e g =>
        obtain ⟨te, k1, _⟩ := ho1
        obtain ⟨a, len, cap, rfl⟩ := okWide_slice k1 hv0
        exact one (by simp) _ rfl rfl rfl
      | st ss' =>
        have ho1' := ho1
        obtain ⟨fs, k1, k2, _⟩ := ho1'
        obtain ⟨cs, rfl, k3⟩ := okWide_struct k1 hv0
        obtain ⟨us, u1, u2⟩ := open_sh (.st ss') hg.1 ho1 (by simp [Value.cells, k3, k2, Sh.size]) hf hw1
        refine ⟨.agg us, ⟨us, u1, rfl⟩, .agg _ _ ?_ ?_⟩
        · simpa [Value.cells] using u2.1.symm
        · intro j x v hx hv'; exact u2.2 j x v hx (by simpa [Value.cells] using hv')
    obtain ⟨x, y1, y2⟩ := goal
    exact ⟨x :: xs, ⟨y1, x1⟩, by simpa using (std1 y2).append x2⟩
  | [], _ :: _, _, _, _, _, ho, _, _, _ => ho.elim
  | _ :: _, [], _, _, _, _, ho, _, _, _ => ho.elim
  | [], [], _ :: _, _, _, _, _, _, h, _ => h.elim
  | [], [], [], _ :: _, _, _, _, _, h, _ => h.elim
  | _ :: _, _ :: _, [], _, _, _, _, _, h, _ => h.elim
  | _ :: _, _ :: _, _ :: _, [], _, _, _, _, h, _ => h.elim

theorem trodAll_length : ∀ {ts : List TypeId} {vs : List Value} {ds : List (DataW H)} {ps : List MemPlace} {base : Nat} {sp : Nat → Bool}, DataW.TrodAll enc P w base sp held ts vs ds ps → vs.length = ts.length ∧ ds.length = ts.length
  | [], [], [], _, _, _, _ => ⟨rfl, rfl⟩
  | _ :: _, _ :: _, _ :: _, _, _, _, h => by
    obtain ⟨p, q, _, h2, _⟩ := h
    have := trodAll_length h2
    exact ⟨by simp [this.1], by simp [this.2]⟩
  | [], _ :: _, _, _, _, _, h => h.elim
  | [], [], _ :: _, _, _, _, h => h.elim
  | _ :: _, [], _, _, _, _, h => h.elim
  | _ :: _, _ :: _, [], _, _, _, h => h.elim

theorem trodAll_len {ts : List TypeId} {vs : List Value} {ds : List (DataW H)} {ps : List MemPlace} {base : Nat} {sp : Nat → Bool} (h : DataW.TrodAll enc P w base sp held ts vs ds ps) : ts.length = ds.length := (trodAll_length h).2.symm

/-- A LAW: it answers true whatever its arguments are, and of what was in memory nothing turns. -/
theorem law_calls_rel {f : Func} {k : FuncId} {s : ChangeSpec} {tb : TypeId} (ss : List Sh) (ts : List TypeId) (hpar : f.params.toList = ts) (hl : laidOutB P = true) (hts : (ts.all fun t => P.readableRec t && decide (t < P.types.size)) = true) (hg : (ss.all (·.good)) = true)
    (hof : Sh.ofAll P ss ts) (hres : f.resultTypes = #[tb]) (hb : P.underlying tb = some .bool) (hvars : s.vars = [])
    (hfn : ∀ ds : List (DataW H), ds.length = ts.length → s.fn H ds = { results := [.lit (.bool true)], args := ds })
    {W : World} {G0 : Gh} {M0 : AMem} (hG0 : (gh0 W).le G0) (hR0 : Rel G0 M0 W) (hcall : ∀ xs, Sh.ValAll ss xs → ACalls P k xs M0 (fun r _ => r = V.bool true))
    {base : Nat} {args : Array Value} {ds gs : List (DataW H)} {before : List MemPlace}
    (hval : ∀ (j : Nat) t v, f.params[j]? = some t → args[j]? = some v → Value.okWide P W .any base t v)
    (hW : DataW.Whole enc P f.params.toList s.vars false W args.toList ds gs before) (hreach : (DataW.weightsEach P (f.params.toList ++ s.plain.varTypes P) (ds ++ gs)).all (· ≤ reachBytes) = true) :
    Calls P k args W fun e W' => ∃ v, e = .returned v ∧ s.post enc P f false true false false W args v W' := by
  subst hpar
  have hW' := hW
  obtain ⟨p, q, hA, hV, rfl, hfz, hnd⟩ := hW
  rw [hvars] at hV
  have hgs : gs = [] ∧ q = [] := by
    match gs, hV with
    | [], h => exact ⟨rfl, h⟩
  obtain ⟨rfl, rfl⟩ := hgs
  have hwt : ∀ n ∈ DataW.weightsEach P f.params.toList ds, n ≤ reachBytes := by
    intro n hn
    rw [List.append_nil] at hreach
    have := List.all_eq_true.1 hreach n (weightsEach_left (trodAll_len hA) hn)
    simpa using this
  obtain ⟨xs, x1, x2⟩ := open_args f.params.toList ss args.toList ds p hg hof (fun j t v ht hv => hval j t v (by simpa using ht) (by simpa using hv)) hA hwt
  have hlt : ∀ x ∈ p, x.block < W.heap.size := fun x hx => by simpa using hW'.lt x (by simp [hx])
  refine (hcall xs x1 G0 W args hR0 (by have := x2.1; simp at this; exact this.symm) (fun j x v hx hv => (x2.2 j x v hx (by simpa using hv)).mono hG0)).mono ?_
  rintro e W' ⟨val, G', vv, M', rfl, hle, hR, hvr, rfl⟩
  have hval' : val = .bool true := by cases hvr; rfl
  subst hval'
  have hbel : Below W.heap.size W W' := by
    have := hR.below
    rw [hle.w0, hG0.w0] at this
    exact this
  have hds : s.fn H (ds ++ []) = { results := [.lit (.bool true)], args := ds } := by
    rw [List.append_nil]; exact hfn ds (trodAll_length hA).2
  refine ⟨_, rfl, ds, [], _, [], p, [], hW', ?_, ?_, ?_, hbel.frame _, fun h => by cases h⟩
  · rw [hds, hres]
    exact trodAll_mk1 (shut_bool hb true)
  · rw [hds]
    exact below_trodAll hl hbel _ _ _ _ hts hA hlt
  · rw [hds, hvars]
    rfl

/-- A LAW: it answers true whatever its arguments are, and of what was in memory nothing turns. -/
theorem law_calls {f : Func} {k : FuncId} {s : ChangeSpec} {tb : TypeId} (ss : List Sh) (ts : List TypeId) (hpar : f.params.toList = ts) (hl : laidOutB P = true) (hts : (ts.all fun t => P.readableRec t && decide (t < P.types.size)) = true) (hg : (ss.all (·.good)) = true)
    (hof : Sh.ofAll P ss ts) (hres : f.resultTypes = #[tb]) (hb : P.underlying tb = some .bool) (hvars : s.vars = [])
    (hfn : ∀ ds : List (DataW H), ds.length = ts.length → s.fn H ds = { results := [.lit (.bool true)], args := ds })
    (hcall : ∀ xs, Sh.ValAll ss xs → ACalls P k xs [] (fun r _ => r = V.bool true))
    {W : World} {base : Nat} {args : Array Value} {ds gs : List (DataW H)} {before : List MemPlace}
    (hval : ∀ (j : Nat) t v, f.params[j]? = some t → args[j]? = some v → Value.okWide P W .any base t v)
    (hW : DataW.Whole enc P f.params.toList s.vars false W args.toList ds gs before) (hreach : (DataW.weightsEach P (f.params.toList ++ s.plain.varTypes P) (ds ++ gs)).all (· ≤ reachBytes) = true) :
    Calls P k args W fun e W' => ∃ v, e = .returned v ∧ s.post enc P f false true false false W args v W' :=
  law_calls_rel ss ts hpar hl hts hg hof hres hb hvars hfn (.refl _) (rel0 W) hcall hval hW hreach

theorem val_int {k : IntKind} {x : V} (h : (Sh.int k).Val x) : ∃ n, x = .prim (.int k n) ∧ (Lit.int k n).wf = true := by
  obtain ⟨cs, ⟨n, hn, hw⟩, hx⟩ := h
  subst hn
  exact ⟨n, hx, hw⟩

theorem val_sl {e : Sh} {g : Bool} {x : V} (h : (Sh.sl e g).Val x) : ∃ xs : List V, x = .list .dull xs ∧ xs.length ≤ reachBytes ∧ ∀ x ∈ xs, ∃ cs, x = (if g then .agg cs else cs.getD 0 .junk) ∧ cs.length = e.size ∧ e.Has cs := by
  obtain ⟨cs, ⟨xs, hn, h1, h2⟩, hx⟩ := h
  subst hn
  exact ⟨xs, hx, h1, h2⟩

/-- A slice of numbers. -/
theorem val_ints {k : IntKind} {x : V} (h : (Sh.sl (.int k) false).Val x) : ∃ ns : List Int, x = .list .dull (ns.map fun n => .prim (.int k n)) ∧ ∀ n ∈ ns, (Lit.int k n).wf = true := by
  obtain ⟨xs, rfl, _, h2⟩ := val_sl h
  have key : ∀ ys : List V, (∀ y ∈ ys, ∃ n, y = .prim (.int k n) ∧ (Lit.int k n).wf = true) → ∃ ns : List Int, ys = (ns.map fun n => V.prim (.int k n)) ∧ ∀ n ∈ ns, (Lit.int k n).wf = true := by
    intro ys
    induction ys with
    | nil => exact fun _ => ⟨[], rfl, fun n hn => by cases hn⟩
    | cons y ys ih =>
      intro h
      obtain ⟨n, hn, hw⟩ := h y (by simp)
      obtain ⟨ns, h1, h3⟩ := ih fun z hz => h z (by simp [hz])
      refine ⟨n :: ns, by rw [h1, hn]; rfl, fun m hm => ?_⟩
      rcases List.mem_cons.1 hm with rfl | hm
      · exact hw
      · exact h3 m hm
  obtain ⟨ns, h1, h3⟩ := key xs fun y hy => by
    obtain ⟨cs, h4, h5, n, h6, h7⟩ := h2 y hy
    subst h6
    exact ⟨n, h4, h7⟩
  exact ⟨ns, by rw [h1], h3⟩

theorem valAll_one {s : Sh} {xs : List V} (h : Sh.ValAll [s] xs) : ∃ x, xs = [x] ∧ s.Val x := by
  match xs, h with
  | [x], h => exact ⟨x, rfl, h.1⟩

theorem valAll_two {s s' : Sh} {xs : List V} (h : Sh.ValAll [s, s'] xs) : ∃ x y, xs = [x, y] ∧ s.Val x ∧ s'.Val y := by
  match xs, h with
  | [x, y], h => exact ⟨x, y, rfl, h.1, h.2.1⟩

theorem valAll_three {s s' s2 : Sh} {xs : List V} (h : Sh.ValAll [s, s', s2] xs) : ∃ x y z, xs = [x, y, z] ∧ s.Val x ∧ s'.Val y ∧ s2.Val z := by
  match xs, h with
  | [x, y, z], h => exact ⟨x, y, z, rfl, h.1, h.2.1, h.2.2.1⟩

end Go.Ax

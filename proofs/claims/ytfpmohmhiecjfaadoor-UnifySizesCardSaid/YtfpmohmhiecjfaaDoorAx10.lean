/- The abstract machine, part 10: a region whose order is fixed; calls that leave the memory as it was. -/
import Derived.Test.YtfpmohmhiecjfaaDoorAx9
set_option linter.unusedVariables false
set_option linter.unusedSimpArgs false
namespace Go.Ax
open Go.RowKit

inductive Run where
  | done (F : Fr) (M : AMem)
  | call (f : FuncId) (args : List V) (F : Fr) (M : AMem) (dst : Option Nat) (rest : List Oper)
  | bad

/-- What a value says as a guard. -/
def guardV (v : V) (want : Bool) : Option Bool :=
  match v with
  | .prim (.bool b) => some (b == want)
  | .prim (.tuple _) => some false
  | _ => none
theorem guardV_bool (b want : Bool) : guardV (.prim (.bool b)) want = some (b == want) := rfl
theorem guardV_undef (want : Bool) : guardV (.prim undef) want = some false := rfl

/-- Is an operation's guard met? -/
def guardA (dsts : List (Option Nat)) (o : Oper) (F : Fr) : Option Bool :=
  match o.guard with
  | none => some true
  | some (j, want) => match dsts[j]? with
    | some (some t) => guardV (look F t) want
    | _ => none

def dstOk (N : Nat) : Option Nat → Bool
  | none => true
  | some d => decide (d < N)

/-- Is the other way of an operation asked for? -/
def altOf : List Nat → Option Nat → Bool
  | [], _ => false
  | _, none => false
  | p :: r, some d => if d = p then true else altOf r (some d)

def runA (P : Program) (pol : List Nat) (N : Nat) (dsts : List (Option Nat)) : List Oper → Fr → AMem → Run
  | [], F, M => .done F M
  | o :: r, F, M => match dstOk N o.dst, guardA dsts o F with
    | true, some true => match stepA P (altOf pol o.dst) o (evalA F) M with
      | .val v M' => runA P pol N dsts r (put o.dst v F) M'
      | .call f args => .call f args F M o.dst r
      | .bad => .bad
    | true, some false => runA P pol N dsts r (put o.dst (.prim undef) F) M
    | _, _ => .bad

inductive WRun (P : Program) (pol : List Nat) (N : Nat) (dsts : List (Option Nat)) (K : Fr → AMem → Prop) : Run → Prop where
  | done (F : Fr) (M : AMem) (h : K F M) : WRun P pol N dsts K (.done F M)
  | call (f : FuncId) (args : List V) (F : Fr) (M : AMem) (dst : Option Nat) (rest : List Oper) (R : V → AMem → Prop) (hc : ACalls P f args M R) (h : ∀ v M', R v M' → WRun P pol N dsts K (runA P pol N dsts rest (put dst v F) M')) :
      WRun P pol N dsts K (.call f args F M dst rest)

theorem guard_sound {G : Gh} {N : Nat} {F : Fr} {a : Act} (hF : FR G N F a) {ops : Array Oper} {o : Oper} {b : Bool} (h : guardA (ops.toList.map (·.dst)) o F = some b) (hN : ∀ (j : Nat) (o : Oper) (d : Nat), ops[j]? = some o → o.dst = some d → d < N) :
    Region.wanted o (yielded ops a.tmps) = b := by
  unfold guardA at h
  unfold Region.wanted
  cases hg : o.guard with
  | none => rw [hg] at h; simp at h; simp [h]
  | some p =>
    obtain ⟨j, want⟩ := p
    rw [hg] at h
    simp only at h ⊢
    split at h
    · rename_i t ht
      rw [List.getElem?_map, Array.getElem?_toList] at ht
      obtain ⟨oj, hoj, ht⟩ := Option.map_eq_some_iff.1 ht
      unfold guardV at h
      split at h
      · rename_i b' hb'
        injection h with h
        have hv := hF.vals t
        rw [hb'] at hv
        have hlt : t < a.tmps.size := by rw [hF.size]; exact hN j oj t hoj ht
        have ht2 : a.tmps[t]? = some (.bool b') := by
          rw [Array.getElem?_eq_getElem hlt]
          congr 1
          rw [Array.getD_eq_getD_getElem?, Array.getElem?_eq_getElem hlt] at hv
          simp only [Option.getD_some] at hv
          generalize a.tmps[t] = z at hv
          cases hv
          rfl
        have hy : yielded ops a.tmps j = some b' := by
          unfold yielded
          rw [hoj]
          simp only [Option.bind_some, ht, ht2]
        rw [hy, ← h]
        cases b' <;> cases want <;> rfl
      · rename_i b' hb'
        injection h with h
        have hv := hF.vals t
        rw [hb'] at hv
        have hlt : t < a.tmps.size := by rw [hF.size]; exact hN j oj t hoj ht
        have ht2 : a.tmps[t]? = some (.tuple b') := by
          rw [Array.getElem?_eq_getElem hlt]
          congr 1
          rw [Array.getD_eq_getD_getElem?, Array.getElem?_eq_getElem hlt] at hv
          simp only [Option.getD_some] at hv
          generalize a.tmps[t] = z at hv
          cases hv
          rfl
        have hy : yielded ops a.tmps j = none := by
          unfold yielded
          rw [hoj]
          simp only [Option.bind_some, ht, ht2]
        rw [hy, ← h]
        cases want <;> rfl
      · cases h
    · cases h

theorem dstOk_lt {N : Nat} {dst : Option Nat} (h : dstOk N dst = true) : ∀ d, dst = some d → d < N := by
  intro d hd
  subst hd
  simp [dstOk] at h
  exact h

/-- The abstract operation stands for the model's. -/
theorem oper_sound {P : Program} {alt : Bool} {o : Oper} {G : Gh} {N : Nat} {F : Fr} {M : AMem} {a : Act} {w : World} (hR : Rel G M w) (hF : FR G N F a) {Q : Exit → Act → World → Prop} {next : Act → World → Prop} {x : V} {M' : AMem}
    (h : stepA P alt o (evalA F) M = .val x M') (hnext : ∀ val G' w', G.le G' → Rel G' M' w' → VR G' x val → next (a.put o.dst val) w') : o.wp P a w next Q := by
  obtain ⟨val, nx, w', G', h1, h2, h3, h4, h5⟩ := stepA_val hR (fun y => hF.eval y) h
  unfold Oper.wp
  rw [h1]
  rcases h2 with rfl | ⟨rfl, rfl⟩
  · exact hnext val G' w' h3 h4 h5
  · exact hnext undef G' w' h3 h4 h5

theorem oper_call {P : Program} {alt : Bool} {o : Oper} {G : Gh} {N : Nat} {F : Fr} {M : AMem} {a : Act} {w : World} (hR : Rel G M w) (hF : FR G N F a) {Q : Exit → Act → World → Prop} {next : Act → World → Prop} {f : FuncId} {args : List V} {R : V → AMem → Prop}
    (h : stepA P alt o (evalA F) M = .call f args) (hc : ACalls P f args M R) (hnext : ∀ val x G' M' w', G.le G' → Rel G' M' w' → VR G' x val → R x M' → next (a.put o.dst val) w') : o.wp P a w next Q := by
  obtain ⟨vals, h1, h2, h3⟩ := stepA_call hR (fun y => hF.eval y) h
  unfold Oper.wp
  rw [h1]
  refine (hc G w vals hR h2 h3).mono ?_
  rintro e w' ⟨val, G', x, M', rfl, g1, g2, g3, g4⟩
  exact hnext val x G' M' w' g1 g2 g3 g4

theorem run_sound {P : Program} {pol : List Nat} {N : Nat} {ops : Array Oper} {K : Fr → AMem → Prop} {Q : Exit → Act → World → Prop} (hN : ∀ (j : Nat) (o : Oper) (d : Nat), ops[j]? = some o → o.dst = some d → d < N) {G0 : Gh}
    (hQ : ∀ G F M a w, G0.le G → Rel G M w → FR G N F a → K F M → Q .normal a w) : ∀ (l : List Oper) (F : Fr) (M : AMem), WRun P pol N (ops.toList.map (·.dst)) K (runA P pol N (ops.toList.map (·.dst)) l F M) →
    ∀ G a w, G0.le G → Rel G M w → FR G N F a → wpList P ops Q l a w := by
  intro l
  induction l with
  | nil =>
    intro F M h G a w hG hR hF
    simp only [runA] at h
    cases h with
    | done _ _ h => exact hQ G F M a w hG hR hF h
  | cons o l ih =>
    intro F M h G a w hG hR hF
    simp only [runA] at h
    refine wpList_step fun K' hK' => ?_
    split at h
    · rename_i hd hg
      rw [if_pos (guard_sound hF hg hN)]
      split at h
      · rename_i x M' hs
        refine oper_sound hR hF hs fun val G' w' hG' hR' hv => ?_
        exact hK' _ _ (ih _ _ h G' _ w' (hG.trans hG') hR' ((hF.mono hG').put (dstOk_lt hd) hv))
      · rename_i f args hs
        cases h with
        | call _ _ _ _ _ _ R hc hk =>
          refine oper_call hR hF hs hc fun val x G' M' w' hG' hR' hv hr => ?_
          exact hK' _ _ (ih _ _ (hk x M' hr) G' _ w' (hG.trans hG') hR' ((hF.mono hG').put (dstOk_lt hd) hv))
      · cases h
    · rename_i hd hg
      rw [if_neg (by rw [guard_sound hF hg hN]; simp)]
      exact hK' _ _ (ih _ _ h G _ w hG hR (hF.put (dstOk_lt hd) (.prim undef)))
    · cases h

theorem dsts_lt {N : Nat} {ops : Array Oper} (h : (ops.toList.map (·.dst)).all (dstOk N) = true) : ∀ (j : Nat) (o : Oper) (d : Nat), ops[j]? = some o → o.dst = some d → d < N := by
  intro j o d ho hd
  have := List.all_eq_true.1 h o.dst (List.mem_map.2 ⟨o, by rw [← Array.getElem?_toList] at ho; exact List.mem_of_getElem? ho, rfl⟩)
  exact dstOk_lt this d hd

/-- A region whose order is fixed: its operations one behind the other. -/
theorem W_region {P : Program} {N : Nat} {Ret : Fr → AMem → Prop} {k : List It} {F : Fr} {M : AMem} (pol : List Nat) {id : Nat} {ops : Array Oper} (hN : (ops.toList.map (·.dst)).all (dstOk N) = true)
    (h : ∀ K : Fr → AMem → Prop, (∀ F M, W P N Ret k F M → K F M) → WRun P pol N (ops.toList.map (·.dst)) K (runA P pol N (ops.toList.map (·.dst)) ops.toList F M)) : W P N Ret (.code (.region id ops false) :: k) F M := by
  intro G a w hR hF
  refine wp_region_list ?_
  refine run_sound (K := W P N Ret k) (G0 := G) (dsts_lt hN) ?_ ops.toList F M (h _ fun _ _ h => h) G a w (.refl G) hR hF
  intro G' F' M' a' w' hG hR' hF' hW
  exact ⟨G', F', M', hG, hR', hF', hW⟩

/-! ### Calls that leave the memory as it was -/
/-- A call whose answer is a tree that names no object, and that changes nothing. -/
def PCalls (P : Program) (f : FuncId) (args : List V) (r : V) : Prop := ∀ M, ACalls P f args M fun v M' => v = r ∧ M' = M

/-! #### Which objects a tree names -/
mutual
def V.ids (n : Nat) : V → Bool
  | .prim _ => true
  | .list t xs => (match t with | .own i => decide (i < n) | _ => true) && V.idsL n xs
  | .agg cs => V.idsL n cs
  | .tup cs => V.idsL n cs
  | .pc cs => V.idsL n cs
  | .ptr i _ => decide (i < n)
  | .map i => decide (i < n)
  | .arr i _ _ _ => decide (i < n)
  | .fn _ cs => V.idsL n cs
  | .junk => true
def V.idsL (n : Nat) : List V → Bool
  | [] => true
  | x :: xs => x.ids n && V.idsL n xs
end

theorem V.idsL_iff {n : Nat} : ∀ {xs : List V}, V.idsL n xs = true ↔ ∀ x ∈ xs, x.ids n = true
  | [] => by simp [V.idsL]
  | y :: ys => by simp [V.idsL, V.idsL_iff (xs := ys)]

theorem V.idsL_at {n : Nat} {xs : List V} (h : V.idsL n xs = true) {j : Nat} {x : V} (hx : xs[j]? = some x) : x.ids n = true := V.idsL_iff.1 h x (List.mem_of_getElem? hx)

theorem V.idsL_of {n : Nat} {xs : List V} (h : ∀ (j : Nat) (x : V), xs[j]? = some x → x.ids n = true) : V.idsL n xs = true :=
  V.idsL_iff.2 fun x hx => by
    obtain ⟨j, hj, rfl⟩ := List.mem_iff_getElem.1 hx
    exact h j _ (List.getElem?_eq_getElem hj)

theorem V.idsL_append {n : Nat} (xs ys : List V) : V.idsL n (xs ++ ys) = (V.idsL n xs && V.idsL n ys) := by
  induction xs with
  | nil => simp [V.idsL]
  | cons x xs ih => simp [V.idsL, ih, Bool.and_assoc]

theorem V.ids_cells {n : Nat} {x : V} (h : x.ids n = true) : V.idsL n x.cells = true := by
  cases x <;> simp_all [V.ids, V.cells, V.idsL]

theorem ids_cellsL {n : Nat} : ∀ {xs : List V}, V.idsL n xs = true → V.idsL n (cellsL xs) = true
  | [], _ => rfl
  | x :: xs, h => by
    simp [V.idsL] at h
    rw [cellsL_cons, V.idsL_append, V.ids_cells h.1, ids_cellsL h.2]
    rfl

theorem ids_of_cellsL {n : Nat} {xs : List V} (h : V.idsL n (cellsL xs) = true) : V.idsL n xs = true := by
  refine V.idsL_iff.2 fun x hx => ?_
  have hc : ∀ y ∈ x.cells, y.ids n = true := fun y hy => V.idsL_iff.1 h y (List.mem_flatMap.2 ⟨x, hx, hy⟩)
  cases x with
  | agg cs => exact V.idsL_iff.2 hc
  | _ => exact hc _ (List.mem_singleton.2 rfl)

theorem V.ids_of_closed {n : Nat} {x : V} : x.closed = true → x.ids n = true := by
  have key : (∀ x : V, x.closed = true → x.ids n = true) ∧ (∀ xs : List V, V.closedL xs = true → V.idsL n xs = true) := by
    refine ⟨fun x => V.rec (motive_1 := fun x => x.closed = true → x.ids n = true) (motive_2 := fun xs => V.closedL xs = true → V.idsL n xs = true) ?_ ?_ ?_ ?_ ?_ ?_ ?_ ?_ ?_ ?_ ?_ ?_ x,
      fun xs => V.rec_1 (motive_1 := fun x => x.closed = true → x.ids n = true) (motive_2 := fun xs => V.closedL xs = true → V.idsL n xs = true) ?_ ?_ ?_ ?_ ?_ ?_ ?_ ?_ ?_ ?_ ?_ ?_ xs⟩
    all_goals first
      | (intro x xs h1 h2 h; simp [V.closedL, V.idsL] at h ⊢; exact ⟨h1 h.1, h2 h.2⟩)
      | (intro v _; rfl)
      | (intro t xs ih h; cases t <;> simp_all [V.closed, V.ids])
      | (intro cs ih h; simpa [V.closed, V.ids] using ih (by simpa [V.closed] using h))
      | (intro f cs ih h; simpa [V.closed, V.ids] using ih (by simpa [V.closed] using h))
      | (intro i o h; simp [V.closed] at h)
      | (intro i h; simp [V.closed] at h)
      | (intro i o l s h; simp [V.closed] at h)
      | (intro _; rfl)
  exact key.1 x

theorem VR.ids {G : Gh} {x : V} {v : Value} (h : VR G x v) : x.ids G.n = true := by
  have ofA : ∀ {cs : List V} {a : Array Value}, a.size = cs.length → (∀ (j : Nat) (x : V) (v : Value), cs[j]? = some x → a[j]? = some v → x.ids G.n = true) → V.idsL G.n cs = true := by
    intro cs a hn h
    refine V.idsL_of fun j x hx => ?_
    have hj := (List.getElem?_eq_some_iff.1 hx).1
    exact h j x _ hx (Array.getElem?_eq_getElem (by omega))
  induction h with
  | prim v => rfl
  | junk v => rfl
  | agg cs a hn _ ih => exact ofA hn ih
  | tup cs a hn _ ih => exact ofA hn ih
  | fn f cs a hn _ ih => exact ofA hn ih
  | ptr i off hi => simpa [V.ids] using hi
  | map i hi => simpa [V.ids] using hi
  | arr i off len sz cap c hi hc hl hb => simpa [V.ids] using hi
  | arrNil i sz a hi hc => simpa [V.ids] using hi
  | pc cs b o val hI _ ih => exact V.idsL_of ih
  | nil t a cap ht hi =>
    cases t with
    | own i => simpa [V.ids, V.idsL] using (hi i rfl).1
    | _ => rfl
  | list t xs b o cap sz val hx hz hs hI _ hc ht ih =>
    have h1 : V.idsL G.n xs = true := ids_of_cellsL (V.idsL_of ih)
    cases t with
    | own i => simpa [V.ids, h1] using ht.1
    | _ => simpa [V.ids] using h1

/-- The ghost state that knows of fewer objects. -/
def Gh.cut (G : Gh) (n : Nat) : Gh := { G with n := n }

theorem VR.cut {G : Gh} {n : Nat} {x : V} {v : Value} (h : VR G x v) : x.ids n = true → VR (G.cut n) x v := by
  induction h with
  | prim v => exact fun _ => .prim v
  | junk v => exact fun _ => .junk v
  | agg cs a hn _ ih => exact fun hb => .agg cs a hn fun j x v hx hv => ih j x v hx hv (V.idsL_at hb hx)
  | tup cs a hn _ ih => exact fun hb => .tup cs a hn fun j x v hx hv => ih j x v hx hv (V.idsL_at hb hx)
  | fn f cs a hn _ ih => exact fun hb => .fn f cs a hn fun j x v hx hv => ih j x v hx hv (V.idsL_at hb hx)
  | ptr i off hi => exact fun hb => .ptr (G := G.cut n) i off (by simpa [V.ids, Gh.cut] using hb)
  | map i hi => exact fun hb => .map (G := G.cut n) i (by simpa [V.ids, Gh.cut] using hb)
  | arr i off len sz cap c hi hc hl hb' => exact fun hb => .arr (G := G.cut n) i off len sz cap c (by simpa [V.ids, Gh.cut] using hb) hc hl hb'
  | arrNil i sz a hi hc => exact fun hb => .arrNil (G := G.cut n) i sz a (by simpa [V.ids, Gh.cut] using hb) hc
  | pc cs b o val hI _ ih => exact fun hb => .pc (G := G.cut n) cs b o val hI fun j x hx => ih j x hx (V.idsL_at hb hx)
  | nil t a cap ht hi =>
    intro hb
    refine .nil (G := G.cut n) t a cap ht fun i e => ?_
    subst e
    exact ⟨by simpa [V.ids, V.idsL, Gh.cut] using hb, (hi i rfl).2⟩
  | list t xs b o cap sz val hx hz hs hI _ hc ht ih =>
    intro hb
    have hb' : V.idsL n xs = true := by cases t <;> simp_all [V.ids]
    refine .list (G := G.cut n) t xs b o cap sz val hx hz hs hI (fun j x hx => ih j x hx (V.idsL_at (ids_cellsL hb') hx)) hc ?_
    cases t with
    | full => exact ht
    | dull => trivial
    | own i => exact ⟨by simp [V.ids] at hb; exact hb.1, ht.2⟩

def AObj.ids (n : Nat) : AObj → Bool
  | .cells cs => V.idsL n cs
  | .tail => true
  | .map es => es.all fun p => p.2.ids n
  | .gone => true
  | .fix _ _ => true

theorem V.ids_mono {n m : Nat} (hnm : n ≤ m) {x : V} : x.ids n = true → x.ids m = true := by
  have key : ∀ x : V, x.ids n = true → x.ids m = true := by
    refine fun x => V.rec (motive_1 := fun x => x.ids n = true → x.ids m = true) (motive_2 := fun xs => V.idsL n xs = true → V.idsL m xs = true) ?_ ?_ ?_ ?_ ?_ ?_ ?_ ?_ ?_ ?_ ?_ ?_ x
    all_goals first
      | (intro x xs h1 h2 h; simp [V.idsL] at h ⊢; exact ⟨h1 h.1, h2 h.2⟩)
      | (intro i o l s h; simp [V.ids] at h ⊢; omega)
      | (intro v _; rfl)
      | (intro t xs ih h; cases t <;> simp_all [V.ids]; omega)
      | (intro t xs ih h; cases t <;> simp_all [V.ids])
      | (intro cs ih h; simpa [V.ids] using ih (by simpa [V.ids] using h))
      | (intro f cs ih h; simpa [V.ids] using ih (by simpa [V.ids] using h))
      | (intro i o h; simp [V.ids] at h ⊢; omega)
      | (intro i h; simp [V.ids] at h ⊢; omega)
      | (intro _; rfl)
  exact key x

theorem AObj.ids_mono {n m : Nat} (hnm : n ≤ m) {o : AObj} (h : o.ids n = true) : o.ids m = true := by
  cases o with
  | cells cs => exact V.idsL_iff.2 fun x hx => V.ids_mono hnm (V.idsL_iff.1 h x hx)
  | tail => rfl
  | map es =>
    simp only [AObj.ids, List.all_eq_true] at h ⊢
    exact fun p hp => V.ids_mono hnm (h p hp)
  | gone => rfl
  | fix b ob => rfl

/-- What a memory's objects name are objects of it. -/
theorem Rel.objIds {G : Gh} {M : AMem} {w : World} (hR : Rel G M w) {o : AObj} (ho : o ∈ M) : o.ids M.length = true := by
  obtain ⟨i, hi, rfl⟩ := List.mem_iff_getElem.1 ho
  have h := hR.obj i _ (List.getElem?_eq_getElem hi)
  rw [hR.n]
  generalize M[i] = o at h
  cases o with
  | cells cs =>
    rcases h with ⟨_, rfl⟩ | ⟨a, T, h1, h2, h3, h4, h5⟩
    · rfl
    · refine V.idsL_of fun j x hx => ?_
      have hj := (List.getElem?_eq_some_iff.1 hx).1
      exact (h4 j x _ hx (Array.getElem?_eq_getElem (by omega))).ids
  | tail => rfl
  | map es =>
    obtain ⟨ents, clock, h1, h2, h3, h4⟩ := h
    simp only [AObj.ids, List.all_eq_true]
    intro p hp
    obtain ⟨j, hj, rfl⟩ := List.mem_iff_getElem.1 hp
    exact (h3 j es[j].1 es[j].2 _ (List.getElem?_eq_getElem hj) (Array.getElem?_eq_getElem (by omega))).2.1.ids
  | gone => rfl
  | fix b ob => rfl

/-- Objects at the end, that nobody names, are forgotten. -/
theorem Rel.cut {G : Gh} {M L : AMem} {w : World} (hR : Rel G (M ++ L) w) (hb : ∀ o ∈ M, o.ids M.length = true) : Rel (G.cut M.length) M w := by
  have hle : ∀ (i : Nat) (o : AObj), M[i]? = some o → (M ++ L)[i]? = some o := fun i o h => by
    rw [List.getElem?_append_left (List.getElem?_eq_some_iff.1 h).1]
    exact h
  refine ⟨rfl, hR.below, hR.imm, fun i o h hal => hR.new i o (hle i o h) ?_, fun i j o o' h1 h2 a1 a2 he => hR.sep i j o o' (hle i o h1) (hle j o' h2) ?_ ?_ he, fun i o h => ?_⟩
  · cases o <;> exact hal
  · cases o <;> exact a1
  · cases o' <;> exact a2
  · have hor := hR.obj i o (hle i o h)
    have hbo := hb o (List.mem_of_getElem? h)
    cases o with
    | cells cs =>
      rcases hor with h1 | ⟨a, T, h1, h2, h3, h4, h5⟩
      · exact .inl h1
      · exact .inr ⟨a, T, h1, h2, h3, fun j x v hx hv => (h4 j x v hx hv).cut (V.idsL_at hbo hx), h5⟩
    | tail => exact hor
    | map es =>
      obtain ⟨ents, clock, h1, h2, h3, h4⟩ := hor
      refine ⟨ents, clock, h1, h2, fun j k x e hx he => ?_, h4⟩
      obtain ⟨p, q, r⟩ := h3 j k x e hx he
      refine ⟨p, q.cut ?_, r⟩
      simp only [AObj.ids, List.all_eq_true] at hbo
      exact hbo (k, x) (List.mem_of_getElem? hx)
    | gone => trivial
    | fix b ob => exact hor

/-- What a call leaves at the end of the memory, and nobody names, is forgotten. -/
theorem ACalls.shrink {P : Program} {f : FuncId} {args : List V} {M : AMem} {R R' : V → AMem → Prop} (h : ACalls P f args M R)
    (hs : ∀ v M', R v M' → ∃ v' M1 L, M' = M1 ++ L ∧ M.length ≤ M1.length ∧ (v' = v ∨ v' = v.un) ∧ v'.ids M1.length = true ∧ (∀ o ∈ M1, o ∈ M ∨ o.ids M1.length = true) ∧ R' v' M1) : ACalls P f args M R' := by
  intro G w vals hR hsz hv
  refine (h G w vals hR hsz hv).mono ?_
  rintro e w' ⟨val, G', vv, M', rfl, h1, h2, h3, h4⟩
  obtain ⟨v', M1, L, rfl, hlen, hv', hb, hob, hr⟩ := hs vv M' h4
  have hR2 := h2.cut (fun o ho => (hob o ho).elim (fun h => AObj.ids_mono hlen (hR.objIds h)) id)
  refine ⟨val, G'.cut M1.length, v', M1, rfl, ⟨?_, h1.φ, h1.cap, h1.len, h1.I, h1.w0⟩, hR2, ?_, hr⟩
  · show G.n ≤ M1.length
    rw [← hR.n]
    exact hlen
  · have : VR G' v' val := by
      rcases hv' with rfl | rfl
      · exact h3
      · exact h3.un
    exact this.cut hb

/-- A call whose answer, weakened, is a tree that names no object, and that only leaves objects behind. -/
theorem pcalls_of {P : Program} {f : FuncId} {args : List V} {r : V} (hr : r.closed = true) (h : ∀ M, ACalls P f args M fun v M' => v.un = r ∧ ∃ L, M' = M ++ L) : PCalls P f args r := by
  intro M
  refine (h M).shrink ?_
  rintro v M' ⟨rfl, L, rfl⟩
  exact ⟨v.un, M, L, rfl, Nat.le_refl _, .inr rfl, V.ids_of_closed hr, fun o ho => .inl ho, rfl, rfl⟩

/-- The arguments may be weakened. -/
theorem ACalls.unArgs {P : Program} {f : FuncId} {args : List V} {M : AMem} {R : V → AMem → Prop} (h : ACalls P f (args.map V.un) M R) : ACalls P f args M R := by
  intro G w vals hR hs hv
  refine h G w vals hR (by simpa using hs) (fun j x v hx hv' => ?_)
  rw [List.getElem?_map] at hx
  obtain ⟨y, hy, rfl⟩ := Option.map_eq_some_iff.1 hx
  exact (hv j y v hy hv').un

theorem PCalls.use {P : Program} {pol : List Nat} {N : Nat} {dsts : List (Option Nat)} {K : Fr → AMem → Prop} {f : FuncId} {args args' : List V} {r : V} {F : Fr} {M : AMem} {dst : Option Nat} {rest : List Oper} (h : PCalls P f args' r) (ha : args.map V.un = args')
    (hk : WRun P pol N dsts K (runA P pol N dsts rest (put dst r F) M)) : WRun P pol N dsts K (.call f args F M dst rest) := by
  subst ha
  refine .call f args F M dst rest _ (h M).unArgs ?_
  rintro v M' ⟨rfl, rfl⟩
  exact hk

theorem ACalls.use {P : Program} {pol : List Nat} {N : Nat} {dsts : List (Option Nat)} {K : Fr → AMem → Prop} {f : FuncId} {args args' : List V} {F : Fr} {M : AMem} {dst : Option Nat} {rest : List Oper} {R : V → AMem → Prop} (h : ACalls P f args' M R) (ha : args.map V.un = args')
    (hk : ∀ v M', R v M' → WRun P pol N dsts K (runA P pol N dsts rest (put dst v F) M')) : WRun P pol N dsts K (.call f args F M dst rest) := by
  subst ha
  exact .call f args F M dst rest _ h.unArgs hk

end Go.Ax

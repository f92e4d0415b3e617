/- The abstract machine, part 2: what it is to run code, and to call, in the abstract machine; the rules for control. -/
import Derived.Test.YtfpmohmhiecjfaaDoorAx1
import Derived.Deep.MidRow
import Derived.Laws.Entries
set_option linter.unusedVariables false
set_option linter.unusedSimpArgs false
namespace Go.Ax
open Go.RowKit

abbrev Fr := List (Nat × V)

def look : Fr → Nat → V
  | [], _ => .junk
  | (u, v) :: F, t => if t = u then v else look F t

def put (dst : Option Nat) (v : V) (F : Fr) : Fr :=
  match dst with
  | some d => (d, v) :: F
  | none => F

structure FR (G : Gh) (N : Nat) (F : Fr) (a : Act) : Prop where
  defers : a.defers = []
  size : a.tmps.size = N
  vals : ∀ t, VR G (look F t) (a.tmps.getD t undef)

theorem FR.mono {G G' : Gh} (h : G.le G') {N : Nat} {F : Fr} {a : Act} (hf : FR G N F a) : FR G' N F a := ⟨hf.defers, hf.size, fun t => (hf.vals t).mono h⟩

theorem look_cons_same (F : Fr) (t : Nat) (v : V) : look ((t, v) :: F) t = v := by simp [look]
theorem look_cons_ne (F : Fr) (t u : Nat) (v : V) (h : t ≠ u) : look ((u, v) :: F) t = look F t := by simp [look, h]

theorem FR.put {G : Gh} {N : Nat} {F : Fr} {a : Act} (hf : FR G N F a) {dst : Option Nat} {x : V} {v : Value} (hd : ∀ d, dst = some d → d < N) (hv : VR G x v) : FR G N (Ax.put dst x F) (a.put dst v) := by
  cases dst with
  | none => exact hf
  | some d =>
    have hdN := hd d rfl
    refine ⟨hf.defers, by simp [Act.put, hf.size], fun t => ?_⟩
    by_cases h : t = d
    · subst h
      simp only [Ax.put, look_cons_same, Act.put]
      rw [Array.getD_eq_getD_getElem?, Array.getElem?_setIfInBounds_self_of_lt (by rw [hf.size]; exact hdN)]
      exact hv
    · simp only [Ax.put, Act.put]
      rw [look_cons_ne _ _ _ _ h, Array.getD_eq_getD_getElem?, Array.getElem?_setIfInBounds_ne (fun e => h e.symm), ← Array.getD_eq_getD_getElem?]
      exact hf.vals t

def cellV : Value → V
  | .slice none 0 0 => .list .full []
  | v => .prim v

def constV : Value → V
  | .agg cs => .agg (cs.toList.map cellV)
  | v => cellV v

def evalA (F : Fr) : Operand → V
  | .tmp t => look F t
  | .const v => constV v
  | .global _ => .junk
  | .func f => .fn f []

theorem VR_cellV (G : Gh) (v : Value) : VR G (cellV v) v := by
  unfold cellV
  split
  · exact .nil .full none 0 (.inr rfl) (fun i e => by cases e)
  · exact .prim v

theorem VR_constV (G : Gh) (v : Value) : VR G (constV v) v := by
  unfold constV
  split
  · rename_i cs
    refine .agg _ cs (by simp) fun j x v hx hv => ?_
    rw [List.getElem?_map, Array.getElem?_toList, hv] at hx
    simp at hx
    subst hx
    exact VR_cellV G v
  · exact VR_cellV G v

theorem FR.eval {G : Gh} {N : Nat} {F : Fr} {a : Act} (hf : FR G N F a) (x : Operand) : VR G (evalA F x) (a.eval x) := by
  cases x with
  | tmp t => exact hf.vals t
  | const v => exact VR_constV G v
  | global g => exact .junk _
  | func f => exact .fn f [] #[] rfl (fun j x v hx => by simp at hx)

/-! ### Running code -/
def Aw (P : Program) (N : Nat) (c : Code) (Q : Exit → Fr → AMem → Prop) (F : Fr) (M : AMem) : Prop :=
  ∀ G a w, Rel G M w → FR G N F a → c.wp P (fun e a' w' => ∃ G' F' M', G.le G' ∧ Rel G' M' w' ∧ FR G' N F' a' ∧ Q e F' M') a w

def ACalls (P : Program) (f : FuncId) (args : List V) (M : AMem) (R : V → AMem → Prop) : Prop :=
  ∀ G w (vals : Array Value), Rel G M w → vals.size = args.length → (∀ (j : Nat) (x : V) (v : Value), args[j]? = some x → vals[j]? = some v → VR G x v) →
    Calls P f vals w fun e w' => ∃ val G' vv M', e = .returned val ∧ G.le G' ∧ Rel G' M' w' ∧ VR G' vv val ∧ R vv M'

theorem ACalls.mono {P : Program} {f : FuncId} {args : List V} {M : AMem} {R R' : V → AMem → Prop} (h : ACalls P f args M R) (hr : ∀ v M', R v M' → R' v M') : ACalls P f args M R' :=
  fun G w vals hR hs hv => (h G w vals hR hs hv).mono fun e w' ⟨val, G', vv, M', he, h1, h2, h3, h4⟩ => ⟨val, G', vv, M', he, h1, h2, h3, hr _ _ h4⟩

/-- What is still to be done. -/
inductive It where
  | code (c : Code)
  | blk (id : Nat)
  | stop (R : Fr → AMem → Prop)

def Qof (P : Program) (N : Nat) (Ret : Fr → AMem → Prop) : List It → Exit → Fr → AMem → Prop
  | [], e, F, M => match e with | .normal | .ret => Ret F M | _ => False
  | .code c :: k, e, F, M => match e with | .normal => Aw P N c (Qof P N Ret k) F M | e => Qof P N Ret k e F M
  | .blk id :: k, e, F, M => match e with | .exit id' => if id' = id then Qof P N Ret k .normal F M else Qof P N Ret k (.exit id') F M | e => Qof P N Ret k e F M
  | .stop R :: k, e, F, M => match e with | .normal => R F M | e => Qof P N Ret k e F M

def W (P : Program) (N : Nat) (Ret : Fr → AMem → Prop) (k : List It) (F : Fr) (M : AMem) : Prop := Qof P N Ret k .normal F M

section
variable {P : Program} {N : Nat} {Ret : Fr → AMem → Prop} {k : List It} {F : Fr} {M : AMem}

theorem Qof_ret : ∀ {k : List It} {F : Fr} {M : AMem}, Ret F M → Qof P N Ret k .ret F M
  | [], _, _, h => h
  | .code _ :: k, _, _, h => Qof_ret (k := k) h
  | .blk _ :: k, _, _, h => Qof_ret (k := k) h
  | .stop _ :: k, _, _, h => Qof_ret (k := k) h

theorem W_seq {a b : Code} (h : W P N Ret (.code a :: .code b :: k) F M) : W P N Ret (.code (a.seq b) :: k) F M := by
  intro G ac w hR hF
  refine wp_seq (wp_mono (h G ac w hR hF) ?_)
  rintro e a' w' ⟨G', F', M', hG, hR', hF', hq⟩
  cases e with
  | normal =>
    refine wp_mono (hq G' a' w' hR' hF') ?_
    rintro e a'' w'' ⟨G'', F'', M'', hG', hR'', hF'', hq'⟩
    exact ⟨G'', F'', M'', hG.trans hG', hR'', hF'', hq'⟩
  | _ => exact ⟨G', F', M', hG, hR', hF', hq⟩

theorem W_skip (h : W P N Ret k F M) : W P N Ret (.code .skip :: k) F M :=
  fun G a w hR hF => wp_skip ⟨G, F, M, .refl G, hR, hF, h⟩
theorem W_ret (h : Ret F M) : W P N Ret (.code .ret :: k) F M :=
  fun G a w hR hF => wp_ret ⟨G, F, M, .refl G, hR, hF, Qof_ret h⟩
theorem W_exit {id : Nat} (h : Qof P N Ret k (.exit id) F M) : W P N Ret (.code (.exit id) :: k) F M :=
  fun G a w hR hF => wp_exit ⟨G, F, M, .refl G, hR, hF, h⟩
theorem W_blk {id : Nat} (h : W P N Ret k F M) : W P N Ret (.blk id :: k) F M := h
theorem W_stop {R : Fr → AMem → Prop} (h : R F M) : W P N Ret (.stop R :: k) F M := h
theorem W_nil (h : Ret F M) : W P N Ret [] F M := h
theorem Qof_code {c : Code} {id : Nat} (h : Qof P N Ret k (.exit id) F M) : Qof P N Ret (.code c :: k) (.exit id) F M := h
theorem Qof_stop {R : Fr → AMem → Prop} {id : Nat} (h : Qof P N Ret k (.exit id) F M) : Qof P N Ret (.stop R :: k) (.exit id) F M := h
theorem Qof_blk_same {id : Nat} (h : W P N Ret k F M) : Qof P N Ret (.blk id :: k) (.exit id) F M := by
  show (if id = id then _ else _)
  rw [if_pos rfl]
  exact h
theorem Qof_blk_other {id id' : Nat} (hne : id' ≠ id) (h : Qof P N Ret k (.exit id') F M) : Qof P N Ret (.blk id :: k) (.exit id') F M := by
  show (if id' = id then _ else _)
  rw [if_neg hne]
  exact h

theorem W_block {id : Nat} {c : Code} (h : W P N Ret (.code c :: .blk id :: k) F M) : W P N Ret (.code (.block id c) :: k) F M := by
  intro G a w hR hF
  refine wp_block (wp_mono (h G a w hR hF) ?_)
  rintro e a' w' ⟨G', F', M', hG, hR', hF', hq⟩
  cases e with
  | exit id' =>
    show (if id' = id then _ else _)
    by_cases he : id' = id
    · rw [if_pos he]
      subst he
      have : W P N Ret k F' M' := by
        have hq' : (if id' = id' then _ else _) := hq
        rwa [if_pos rfl] at hq'
      exact ⟨G', F', M', hG, hR', hF', this⟩
    · rw [if_neg he]
      have : Qof P N Ret k (.exit id') F' M' := by
        have hq' : (if id' = id then _ else _) := hq
        rwa [if_neg he] at hq'
      exact ⟨G', F', M', hG, hR', hF', this⟩
  | _ => exact ⟨G', F', M', hG, hR', hF', hq⟩

theorem W_cond {c : Operand} {x y : Code} {b : Bool} (hc : evalA F c = .bool b) (h : W P N Ret (.code (if b then x else y) :: k) F M) : W P N Ret (.code (.cond c x y) :: k) F M := by
  intro G a w hR hF
  have hv := hF.eval c
  rw [hc] at hv
  have he : a.eval c = .bool b := by
    generalize a.eval c = z at hv
    cases hv
    rfl
  exact wp_cond he (h G a w hR hF)

theorem W_cond_true {c : Operand} {x y : Code} (hc : evalA F c = .bool true) (h : W P N Ret (.code x :: k) F M) : W P N Ret (.code (.cond c x y) :: k) F M := W_cond hc h
theorem W_cond_false {c : Operand} {x y : Code} (hc : evalA F c = .bool false) (h : W P N Ret (.code y :: k) F M) : W P N Ret (.code (.cond c x y) :: k) F M := W_cond hc h
theorem W_cond_split {c : Operand} {x y : Code} {b : Bool} (hc : evalA F c = .bool b) (ht : b = true → W P N Ret (.code x :: k) F M) (hf : b = false → W P N Ret (.code y :: k) F M) : W P N Ret (.code (.cond c x y) :: k) F M := by
  cases b
  · exact W_cond_false hc (hf rfl)
  · exact W_cond_true hc (ht rfl)

/-- A loop whose measure is a ghost's. -/
theorem wp_loop_ghost {α : Type} {c : Code} {Q : Exit → Act → World → Prop} {a : Act} {w : World} (I : α → Act → World → Prop) (μ : α → Nat) (x0 : α) (h0 : I x0 a w)
    (round : ∀ x a w, I x a w → c.wp P (Exit.then (fun a' w' => ∃ x', I x' a' w' ∧ μ x' < μ x) Q) a w) : (Code.loop c).wp P Q a w := by
  intro b k cs
  have key : ∀ n x a w, μ x = n → I x a w → ∃ e a' w', Q e a' w' ∧ Arrives P (lone (b.at a (.code c :: .inLoop c :: k)) cs w) b k cs e a' w' := by
    intro n
    induction n using Nat.strongRecOn with
    | _ n ih =>
      intro x a w hn hI
      obtain ⟨e, a₁, w₁, hq, harr⟩ := round x a w hI b (.inLoop c :: k) cs
      cases e with
      | normal =>
        obtain ⟨x', hI₁, hlt⟩ := hq
        obtain ⟨e₂, a₂, w₂, hq₂, harr₂⟩ := ih (μ x') (hn ▸ hlt) x' a₁ w₁ rfl hI₁
        exact ⟨e₂, a₂, w₂, hq₂, .of_steps (Steps.trans harr (.one step_inLoop)) harr₂⟩
      | exit id => exact ⟨_, a₁, w₁, hq, .pass (x := .inLoop c) rfl (fun _ _ => .inl (by simp)) harr⟩
      | goto l => exact ⟨_, a₁, w₁, hq, .pass (x := .inLoop c) rfl (fun _ _ => .inl (by simp)) harr⟩
      | ret => exact ⟨_, a₁, w₁, hq, .pass (x := .inLoop c) rfl (fun _ _ => .inl (by simp)) harr⟩
      | panic ch => exact ⟨_, a₁, w₁, hq, .pass (x := .inLoop c) rfl (fun _ _ => .inl (by simp)) harr⟩
      | outgrown => exact ⟨_, a₁, w₁, hq, .pass (x := .inLoop c) rfl (fun _ _ => .inl (by simp)) harr⟩
  obtain ⟨e, a', w', hq, harr⟩ := key _ x0 a w rfl h0
  exact ⟨e, a', w', hq, .of_steps (.one step_loop) harr⟩

theorem W_loop {α : Type} {c : Code} (I : α → Fr → AMem → Prop) (μ : α → Nat) (x0 : α) (h0 : I x0 F M)
    (round : ∀ x F M, I x F M → W P N Ret (.code c :: .stop (fun F M => ∃ x', I x' F M ∧ μ x' < μ x) :: k) F M) : W P N Ret (.code (.loop c) :: k) F M := by
  intro G a w hR hF
  refine wp_loop_ghost (fun x a w => ∃ G' F' M', G.le G' ∧ Rel G' M' w ∧ FR G' N F' a ∧ I x F' M') μ x0 ⟨G, F, M, .refl G, hR, hF, h0⟩ ?_
  rintro x a w ⟨G1, F1, M1, hG1, hR1, hF1, hI⟩
  refine wp_mono (round x F1 M1 hI G1 a w hR1 hF1) ?_
  rintro e a' w' ⟨G2, F2, M2, hG2, hR2, hF2, hq⟩
  cases e with
  | normal =>
    obtain ⟨x', hI', hlt⟩ := hq
    exact ⟨x', ⟨G2, F2, M2, hG1.trans hG2, hR2, hF2, hI'⟩, hlt⟩
  | _ => exact ⟨G2, F2, M2, hG1.trans hG2, hR2, hF2, hq⟩

/-- What isn't looked at any more may be forgotten. -/
theorem W_forget {c : Code} {F' : Fr} (hf : ∀ t, look F' t = look F t ∨ look F' t = .junk) (h : W P N Ret (.code c :: k) F' M) : W P N Ret (.code c :: k) F M :=
  fun G a w hR hF => h G a w hR ⟨hF.defers, hF.size, fun t => by
    rcases hf t with e | e
    · rw [e]; exact hF.vals t
    · rw [e]; exact .junk _⟩
end


/-! ### Entering a function -/
def szT (P : Program) (t : TypeId) : Nat := ((P.info? t).map (·.size)).getD 0
/-- Is a type one of several cells (a struct, an array)? -/
def tkT (P : Program) (t : TypeId) : Option Bool :=
  match P.underlying t with
  | some (.struct _) | some (.array _ _) => some true
  | some _ => some false
  | none => none

/-- What is read of a type, out of cells. -/
def ldA (P : Program) (t : TypeId) (cs : List V) : Option V :=
  match tkT P t with
  | some true => if 0 < szT P t ∧ szT P t ≤ cs.length then some (.agg (cs.take (szT P t))) else none
  | some false => cs.head?
  | none => none

/-- The cells that lie at a pointer. -/
def atA (M : AMem) : V → Option (List V)
  | .pc cs => some cs
  | .ptr i off => match M[i]? with
    | some (.cells cs) => some (cs.drop off)
    | _ => none
  | _ => none

def loadA (P : Program) (t : TypeId) (M : AMem) (p : V) : Option V :=
  match atA M p with
  | some cs => ldA P t cs
  | none => none

def resA (P : Program) (F : Fr) (M : AMem) : List ResultVar → Option (List V)
  | [] => some []
  | .tmp t :: rs => match resA P F M rs with
    | some vs => some (look F t :: vs)
    | none => none
  | .cell a t :: rs => match loadA P t M (look F a), resA P F M rs with
    | some v, some vs => some (v :: vs)
    | _, _ => none

def RetA (P : Program) (rs : List ResultVar) (R : V → AMem → Prop) (F : Fr) (M : AMem) : Prop :=
  match resA P F M rs with
  | some [v] => R v M
  | some vs => R (.tup vs) M
  | none => False

theorem info_of {P : Program} {t : TypeId} (h : 0 < szT P t) : ∃ i, P.info? t = some i ∧ i.size = szT P t := by
  unfold szT at *
  cases hi : P.info? t with
  | none => simp [hi] at h
  | some i => exact ⟨i, rfl, by simp⟩

/-- Cells that stand for trees can be read. -/
theorem atA_cell {G : Gh} {M : AMem} {w : World} (hR : Rel G M w) {p : V} {v : Value} (hp : VR G p v) {cs : List V} (h : atA M p = some cs) :
    ∃ b o, v = .pointer (some ⟨b, o, none⟩) ∧ ∀ j x, cs[j]? = some x → ∃ u, w.cell? ⟨b, o + j, none⟩ = some u ∧ VR G x u := by
  cases hp with
  | pc cs' b o val hI hx =>
    simp [atA] at h
    subst h
    refine ⟨b, o, rfl, fun j x hj => ⟨val j, hR.imm _ _ _ (hI j (List.getElem?_eq_some_iff.1 hj).1), hx j x hj⟩⟩
  | ptr i off hi =>
    refine ⟨G.φ i, off, rfl, fun j x hj => ?_⟩
    simp only [atA] at h
    split at h
    · rename_i cs0 hM
      injection h with h
      subst h
      rw [List.getElem?_drop] at hj
      obtain ⟨_, rfl⟩ | ⟨a, T, hh, hcap, hlen, hv, _⟩ := hR.obj i _ hM
      · simp at hj
      have hlt : off + j < a.size := by
        have := (List.getElem?_eq_some_iff.1 hj).1
        omega
      refine ⟨a[off + j], by simp [World.cell?, hh, hlt], hv (off + j) x _ hj (Array.getElem?_eq_getElem hlt)⟩
    · cases h
  | _ => simp [atA] at h

theorem tkT_some {P : Program} {t : TypeId} {b : Bool} (h : tkT P t = some b) : ∃ d, P.underlying t = some d ∧ d.isRow = b := by
  unfold tkT at h
  split at h
  · rename_i d hd; injection h with h; exact ⟨_, hd, h⟩
  · rename_i d hd; injection h with h; exact ⟨_, hd, h⟩
  · rename_i d h1 h2 hd
    injection h with h
    refine ⟨d, hd, ?_⟩
    subst h
    cases d <;> first | rfl | (exact absurd rfl (h1 _)) | (exact absurd rfl (h2 _ _))
  · cases h

theorem run_isAgg {P : Program} {t : TypeId} {b : Bool} (h : tkT P t = some b) (w : World) : (isAgg t).run P w = .ok b w := by
  obtain ⟨d, hd, hr⟩ := tkT_some h
  unfold isAgg
  rw [Sem.run_bind, run_underlying hd w]
  subst hr
  cases d <;> simp

/-- Of a sequence of cells that stand for trees: their values. -/
theorem exists_vals {G : Gh} : ∀ (cs : List V) (f : Nat → Option Value), (∀ j x, cs[j]? = some x → ∃ u, f j = some u ∧ VR G x u) → ∃ us : List Value, us.length = cs.length ∧ (∀ j u, us[j]? = some u → f j = some u) ∧ ∀ (j : Nat) (x : V) (u : Value), cs[j]? = some x → us[j]? = some u → VR G x u
  | [], f, h => ⟨[], rfl, fun j u h => by simp at h, fun j x u h => by simp at h⟩
  | x :: cs, f, h => by
    obtain ⟨u, hu, hx⟩ := h 0 x (by simp)
    obtain ⟨us, h1, h2, h3⟩ := exists_vals cs (fun j => f (j + 1)) (fun j y hj => h (j + 1) y (by simpa using hj))
    refine ⟨u :: us, by simp [h1], ?_, ?_⟩
    · intro j v hj
      cases j with
      | zero => simp at hj; subst hj; exact hu
      | succ j => exact h2 j v (by simpa using hj)
    · intro j y v hy hv
      cases j with
      | zero => simp at hy hv; subst hy; subst hv; exact hx
      | succ j => exact h3 j y v (by simpa using hy) (by simpa using hv)

theorem loadA_sound {P : Program} {G : Gh} {M : AMem} {w : World} (hR : Rel G M w) {t : TypeId} {p : V} {v : Value} (hp : VR G p v) {x : V} (h : loadA P t M p = some x) :
    ∃ a u, v = .pointer (some a) ∧ (loadVar t a).run P w = .ok u w ∧ VR G x u := by
  unfold loadA at h
  split at h
  · rename_i cs hcs
    obtain ⟨b, o, rfl, hc⟩ := atA_cell hR hp hcs
    unfold ldA at h
    refine ⟨⟨b, o, none⟩, ?_⟩
    split at h
    · rename_i hagg
      split at h
      · rename_i hle
        injection h with h
        subst h
        obtain ⟨i, hi, hsz⟩ := info_of hle.1
        obtain ⟨us, h1, h2, h3⟩ := exists_vals (G := G) (cs.take (szT P t)) (fun j => w.cell? ⟨b, o + j, none⟩) (fun j x hj => by
          rw [List.getElem?_take] at hj
          split at hj
          · exact hc j x hj
          · cases hj)
        have hl : us.length = szT P t := by rw [h1, List.length_take]; omega
        obtain ⟨d, hd, hr⟩ := tkT_some hagg
        exact ⟨.agg us.toArray, rfl, run_loadVar_mid w b o t us d h2 hd hr (by rw [hi]; simp [hsz, hl]), .agg _ _ (by simp [h1]) fun j x u hx hu => h3 j x u hx (by simpa using hu)⟩
      · cases h
    · rename_i hagg
      rw [List.head?_eq_getElem?] at h
      obtain ⟨u, hu, hx⟩ := hc 0 x h
      refine ⟨u, rfl, ?_, hx⟩
      unfold loadVar
      rw [Sem.run_bind, run_isAgg hagg w]
      simp only [Result.andThen_ok]
      simp only [Nat.add_zero] at hu
      simp [hu]
    · cases h
  · cases h

def resOne (tmps : Array Value) : ResultVar → Sem Value
  | .tmp t => pure (tmps.getD t undef)
  | .cell a t => do loadVar t (← asAddr (tmps.getD a undef))

theorem results_eq (fn : Func) (tmps : Array Value) : results fn tmps = (do let vs ← fn.results.mapM (resOne tmps); pure (if h : vs.size = 1 then vs[0] else .tuple vs)) := by
  unfold results
  refine congrArg (fun g : ResultVar → Sem Value => (do let vs ← fn.results.mapM g; pure (if h : vs.size = 1 then vs[0] else Value.tuple vs))) ?_
  funext x
  cases x <;> rfl

theorem resA_sound {P : Program} {G : Gh} {N : Nat} {F : Fr} {M : AMem} {w : World} {a : Act} (hR : Rel G M w) (hF : FR G N F a) : ∀ {rs : List ResultVar} {vs : List V}, resA P F M rs = some vs →
    ∃ us : List Value, (rs.mapM (resOne a.tmps)).run P w = .ok us w ∧ us.length = vs.length ∧
      ∀ (j : Nat) (x : V) (u : Value), vs[j]? = some x → us[j]? = some u → VR G x u
  | [], vs, h => by
    simp [resA] at h
    subst h
    exact ⟨[], by simp, rfl, fun j x u hx => by simp at hx⟩
  | .tmp t :: rs, vs, h => by
    simp only [resA] at h
    split at h
    · rename_i vs' hvs
      injection h with h
      subst h
      obtain ⟨us, h1, h2, h3⟩ := resA_sound hR hF hvs
      refine ⟨a.tmps.getD t undef :: us, ?_, by simp [h2], ?_⟩
      · simp only [List.mapM_cons, resOne, Sem.run_bind, Sem.run_pure, Result.andThen_ok, h1]
      · intro j x u hx hu
        cases j with
        | zero => simp at hx hu; subst hx; subst hu; have := hF.vals t; rw [Array.getD_eq_getD_getElem?] at this; exact this
        | succ j => exact h3 j x u (by simpa using hx) (by simpa using hu)
    · cases h
  | .cell p t :: rs, vs, h => by
    simp only [resA] at h
    split at h
    · rename_i v vs' hv hvs
      injection h with h
      subst h
      obtain ⟨us, h1, h2, h3⟩ := resA_sound hR hF hvs
      obtain ⟨ad, u, he, hl, hx⟩ := loadA_sound hR (hF.vals p) hv
      refine ⟨u :: us, ?_, by simp [h2], ?_⟩
      · simp only [List.mapM_cons, resOne, Sem.run_bind, he, asAddr, Sem.run_pure, Result.andThen_ok, hl, h1]
      · intro j x' u' hx' hu'
        cases j with
        | zero => simp at hx' hu'; subst hx'; subst hu'; exact hx
        | succ j => exact h3 j x' u' (by simpa using hx') (by simpa using hu')
    · cases h

/-- The begin's frame: the arguments. -/
def argsF : Nat → List V → Fr
  | _, [] => []
  | i, x :: xs => (i, x) :: argsF (i + 1) xs

theorem look_argsF : ∀ (xs : List V) (i t : Nat), look (argsF i xs) t = if i ≤ t then xs[t - i]?.getD .junk else .junk
  | [], i, t => by simp [argsF, look]
  | x :: xs, i, t => by
    by_cases h : t = i
    · subst h
      simp [argsF, look_cons_same]
    · rw [argsF, look_cons_ne _ _ _ _ h, look_argsF xs (i + 1) t]
      by_cases h2 : i ≤ t
      · rw [if_pos (by omega), if_pos h2]
        have : t - i = (t - (i + 1)) + 1 := by omega
        rw [this]
        simp
      · rw [if_neg (by omega), if_neg h2]

theorem acalls_enter {P : Program} {f : FuncId} {fn : Func} {c : Code} {args : List V} {M : AMem} {R : V → AMem → Prop} (rs : List ResultVar) (N : Nat) (hf : P.funcs[f]? = some fn) (hb : fn.body = some c) (hn : fn.ntmps = N)
    (hr : fn.results = rs.toArray) (hN : args.length ≤ N) (h : W P N (RetA P rs R) [.code c] (argsF 0 args) M) : ACalls P f args M R := by
  intro G w vals hR hs hv
  have hF : FR G N (argsF 0 args) { tmps := vals ++ Array.replicate (fn.ntmps - vals.size) undef, defers := [] } := by
    refine ⟨rfl, by simp; omega, fun t => ?_⟩
    rw [look_argsF]
    simp only [Nat.zero_le, if_true, Nat.sub_zero]
    cases ha : args[t]? with
    | none => exact .junk _
    | some x =>
      have ht : t < args.length := (List.getElem?_eq_some_iff.1 ha).1
      have ht' : t < vals.size := by omega
      rw [Array.getD_eq_getD_getElem?, Array.getElem?_append_left ht', Array.getElem?_eq_getElem ht']
      exact hv t x _ ha (Array.getElem?_eq_getElem ht')
  have key : ∀ G' F' M' a' w', G.le G' → Rel G' M' w' → FR G' N F' a' → RetA P rs R F' M' →
      a'.defers = [] ∧ ∃ v, (results fn a'.tmps).run P w' = .ok v w' ∧ ∃ val G'' vv M'', Ending.returned v = .returned val ∧ G.le G'' ∧ Rel G'' M'' w' ∧ VR G'' vv val ∧ R vv M'' := by
    intro G' F' M' a' w' hG hR' hF' hret
    refine ⟨hF'.defers, ?_⟩
    unfold RetA at hret
    have hres : ∀ us : List Value, (rs.mapM (resOne a'.tmps)).run P w' = .ok us w' →
        (results fn a'.tmps).run P w' = .ok (if h : us.toArray.size = 1 then us.toArray[0] else .tuple us.toArray) w' := by
      intro us hus
      rw [results_eq, hr, List.mapM_toArray]
      simp only [Sem.run_bind, Sem.run_map, hus]
      simp
    cases hvs : resA P F' M' rs with
    | none => rw [hvs] at hret; exact hret.elim
    | some vs =>
      obtain ⟨us, h1, h2, h3⟩ := resA_sound hR' hF' hvs
      rw [hvs] at hret
      have hrun := hres us h1
      match vs, us, h2, h3, hret, hrun with
      | [v], [u], _, h3, hret, hrun => exact ⟨u, by simpa using hrun, u, G', v, M', rfl, hG, hR', h3 0 v u rfl rfl, hret⟩
      | [], [], _, h3, hret, hrun => exact ⟨.tuple #[], by simpa using hrun, _, G', .tup [], M', rfl, hG, hR', .tup [] #[] rfl (fun j x v hx => by simp at hx), hret⟩
      | v1 :: v2 :: vs, u1 :: u2 :: us, h2, h3, hret, hrun =>
        refine ⟨.tuple (u1 :: u2 :: us).toArray, ?_, _, G', .tup (v1 :: v2 :: vs), M', rfl, hG, hR', .tup _ _ (by simpa using h2) (fun j x v hx hv => h3 j x v hx (by simpa using hv)), hret⟩
        rw [hrun, dif_neg (by simp)]
  refine calls_of_wp hf hb (wp_mono (h G _ w hR hF) ?_)
  rintro e a' w' ⟨G', F', M', hG, hR', hF', hq⟩
  cases e with
  | normal => exact key G' F' M' a' w' hG hR' hF' hq
  | ret => exact key G' F' M' a' w' hG hR' hF' hq
  | _ => exact hq.elim

end Go.Ax

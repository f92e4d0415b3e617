/- The abstract machine, part 9: one operation, whichever; a region whose order is fixed. -/
import Derived.Test.YtfpmohmhiecjfaaDoorAx8
set_option linter.unusedVariables false
set_option linter.unusedSimpArgs false
namespace Go.Ax
open Go.RowKit

def bodyT (P : Program) (f : FuncId) : Bool :=
  match P.funcs[f]? with
  | some fn => fn.body.isSome && !(fn.name == "runtime.NumGoroutine")
  | none => false

def appendA (P : Program) (alt : Bool) (t t2 : TypeId) (M : AMem) (a b : V) : Option (V × AMem) :=
  match kT P t, kT P t2 with
  | .slice e, .slice _ => match srcA M b, zeroT P e with
    | some ys, some z => if 0 < szT P e ∧ z.cells.length = szT P e ∧ byT P e ≤ 2048 ∧ (∀ y ∈ ys, y.cells.length = szT P e ∧ y.okv = true) then (match alt, a with
      | false, .list tg xs => if tagOk tg M = true ∧ (∀ x ∈ xs, x.cells.length = szT P e) ∧ xs.length + ys.length ≤ 1073741824 then some (.list (.own M.length) (xs ++ ys), dropTag tg M ++ [.tail]) else none
      | _, a => match rowA M (szT P e) a with
        | some (olds, len, M0) => if len + ys.length ≤ 1073741824 then some (.arr M.length 0 (len + ys.length) (szT P e), M0 ++ [.cells (olds ++ cellsL ys)]) else none
        | none => none) else none
    | _, _ => none
  | _, _ => none

theorem snd_append {P : Program} {G : Gh} {M : AMem} {w : World} (hR : Rel G M w) {alt : Bool} {t t2 ty : TypeId} {a b z : V} {av bv : Value} (ha : VR G a av) (hb : VR G b bv) {M' : AMem} (h : appendA P alt t t2 M a b = some (z, M')) :
    Snd P G w (Builtin.append_ #[t, t2] ty #[av, bv]) z M' := by
  unfold appendA at h
  split at h
  · rename_i e e2 hk1 hk2
    split at h
    · rename_i ys z0 hys hz
      split at h
      · rename_i hc
        obtain ⟨h1, h2, h3, h4⟩ := hc
        split at h
        · rename_i tg xs
          split at h
          · rename_i hc
            injection h with h
            injection h with e1 e2
            subst e1; subst e2
            exact append_list hR (kT_elT hk1) (kT_slice hk2) hz rfl h1 h2 ha hb hys hc.1 h4 hc.2.1 h3 hc.2.2
          · cases h
        · split at h
          · rename_i olds len M0 hrow
            split at h
            · rename_i hc
              injection h with h
              injection h with e1 e2
              subst e1; subst e2
              exact append_arr hR (kT_elT hk1) (kT_slice hk2) hz rfl h1 h2 ha hrow hb hys h4 h3 hc
            · cases h
          · cases h
      · cases h
    · cases h
  · cases h

def ofV (M : AMem) : Option V → Out
  | some v => .val v M
  | none => .bad
def ofM : Option AMem → Out
  | some M => .val (.prim undef) M
  | none => .bad
def ofVM : Option (V × AMem) → Out
  | some (v, M) => .val v M
  | none => .bad

def callA (P : Program) (alt : Bool) (c : Call) (ρ : Operand → V) (M : AMem) : Out :=
  match c.callee with
  | .value f => match ρ f with
    | .fn g caps => if bodyT P g = true then .call g (c.args.toList.map ρ ++ caps) else .bad
    | _ => .bad
  | .builtin .len => match c.args.toList, c.argTypes.toList with
    | [x], [t] => ofV M (lenA P t M (ρ x))
    | _, _ => .bad
  | .builtin .append => match c.args.toList, c.argTypes.toList with
    | [x, y], [t, t2] => ofVM (appendA P alt t t2 M (ρ x) (ρ y))
    | _, _ => .bad
  | .builtin .min => match c.args.toList with
    | [x, y] => match ρ x, ρ y with
      | .prim (.int k a), .prim (.int k' b) => .val (.prim (.int k (if b < a then b else a))) M
      | _, _ => .bad
    | _ => .bad
  | _ => .bad

def stepA (P : Program) (alt : Bool) (o : Oper) (ρ : Operand → V) (M : AMem) : Out :=
  match o.op with
  | .move x => .val (ρ x) M
  | .assign x => .val (ρ x) M
  | .pick c a b => match ρ c with
    | .prim (.bool t) => .val (if t then ρ a else ρ b) M
    | _ => .bad
  | .alloc t => match zeroT P t with
    | some z => .val (.ptr M.length 0) (M ++ [.cells z.cells])
    | none => .bad
  | .box _ x => if (ρ x).okv = true then (if alt then .val (.pc (ρ x).cells) M else .val (.ptr M.length 0) (M ++ [.cells (ρ x).cells])) else .bad
  | .build t parts => match fieldsT P t with
    | some fs => if fs.all (fun f => decide (0 < f.2)) = true then ofV M (buildA P t (parts.toList.map fun p => (p.1, ρ p.2))) else .bad
    | none => .bad
  | .buildSlice t len parts => ofV M (buildSliceA P t len (parts.toList.map fun p => p.1) (parts.toList.map fun p => ρ p.2))
  | .load t x => ofV M (loadA P t M (ρ x))
  | .store t a x => ofM (storeA P t M (ρ a) (ρ x))
  | .nilCheck x => match ρ x with
    | .ptr i o => .val (.ptr i o) M
    | .pc cs => .val (.pc cs) M
    | .fn f cs => .val (.fn f cs) M
    | _ => .bad
  | .binOp op t x y _ => ofV M (binA P op t (ρ x) (ρ y))
  | .unOp op _ x => ofV M (unA op (ρ x))
  | .convert s d x => ofV M (convA P s d (ρ x))
  | .makeFunc fn first captured => match fn, first.toList with
    | .func f, [] => .val (.fn f (captured.toList.map ρ)) M
    | _, _ => .bad
  | .makeMap _ r => match r with
    | none => .val (.map M.length) (M ++ [.map []])
    | some _ => .bad
  | .makeSlice t l c => match makeSliceA P t (ρ l) (ρ c) with
    | some (z, _, n) => .val (.arr M.length 0 n 1) (M ++ [.cells (List.replicate n z)])
    | none => .bad
  | .slice t x lo hi mx => ofV M (sliceA P t (ρ x) (lo.map ρ) (hi.map ρ) (mx.map ρ))
  | .fieldAddr s x f => ofV M (fieldA P s f (ρ x))
  | .field s x f => ofV M (fieldVA P s f (ρ x))
  | .indexAddr t x ix => ofV M (indexAddrA P t (ρ x) (ρ ix))
  | .index t x ix => ofV M (indexA P t (ρ x) (ρ ix))
  | .lookup t x ix ok => ofV M (lookupA P t M (ρ x) (ρ ix) ok)
  | .mapUpdate t m k x => ofM (mapPutA P t M (ρ m) (ρ k) (ρ x))
  | .insert t m k x => ofM (mapPutA P t M (ρ m) (ρ k) (ρ x))
  | .extract x i => ofV M (extractA (ρ x) i)
  | .call c => callA P alt c ρ M
  | _ => .bad

section
variable {P : Program} {G : Gh} {M : AMem} {w : World}

/-- What an operation that gives a value does. -/
def Gives (P : Program) (G : Gh) (w : World) (s : Sem Next) (x : V) (M' : AMem) : Prop :=
  ∃ val nx w' G', s.run P w = .ok nx w' ∧ (nx = .value val ∨ nx = .skip ∧ val = undef) ∧ G.le G' ∧ Rel G' M' w' ∧ VR G' x val

theorem Snd.gives {s : Sem Value} {x : V} {M' : AMem} (h : Snd P G w s x M') : Gives P G w (do Pure.pure (Next.value (← s))) x M' := by
  obtain ⟨val, w', G', h1, h2, h3, h4⟩ := h
  exact ⟨val, .value val, w', G', by simp [h1], .inl rfl, h2, h3, h4⟩

theorem gives_ofV {s : Sem Value} {r : Option V} {x : V} {M' : AMem} (h : ofV M r = .val x M') (hs : ∀ z, r = some z → Snd P G w s z M) : Gives P G w (do Pure.pure (Next.value (← s))) x M' := by
  cases r with
  | none => cases h
  | some z =>
    simp only [ofV] at h
    injection h with h1 h2
    subst h1; subst h2
    exact (hs z rfl).gives

theorem gives_ofM {s : Sem Unit} {r : Option AMem} {x : V} {M' : AMem} (h : ofM r = .val x M') (hs : ∀ M2, r = some M2 → ∃ w', s.run P w = .ok () w' ∧ Rel G M2 w') : Gives P G w (do s; pure Next.skip) x M' := by
  cases r with
  | none => cases h
  | some M2 =>
    simp only [ofM] at h
    injection h with h1 h2
    subst h1; subst h2
    obtain ⟨w', h1, h2⟩ := hs M2 rfl
    exact ⟨undef, .skip, w', G, by simp [h1], .inr ⟨rfl, rfl⟩, .refl G, h2, .prim _⟩

theorem gives_pure (hR : Rel G M w) {x : V} {v : Value} (hx : VR G x v) {y : V} {M' : AMem} (h : Out.val x M = .val y M') : Gives P G w (pure (Next.value v)) y M' := by
  injection h with h1 h2
  subst h1; subst h2
  exact ⟨v, .value v, w, G, rfl, .inl rfl, .refl G, hR, hx⟩

theorem parts_rel {ρ : Operand → V} {e : Operand → Value} (hρ : ∀ y, VR G (ρ y) (e y)) (parts : Array (Nat × Operand)) :
    (parts.toList.map fun p => (p.1, ρ p.2)).length = (parts.toList.map fun p => (p.1, e p.2)).length ∧
    ∀ (j : Nat) (p : Nat × V) (q : Nat × Value), (parts.toList.map fun p => (p.1, ρ p.2))[j]? = some p → (parts.toList.map fun p => (p.1, e p.2))[j]? = some q → p.1 = q.1 ∧ VR G p.2 q.2 := by
  refine ⟨by simp, fun j p q hp hq => ?_⟩
  rw [List.getElem?_map] at hp hq
  obtain ⟨x, hx, rfl⟩ := Option.map_eq_some_iff.1 hp
  rw [hx] at hq
  simp at hq
  subst hq
  exact ⟨rfl, hρ _⟩

theorem opt_rel {ρ : Operand → V} {e : Operand → Value} (hρ : ∀ y, VR G (ρ y) (e y)) (o : Option Operand) : (∀ v, o.map ρ = some v → ∃ u, o.map e = some u ∧ VR G v u) ∧ (o.map ρ = none → o.map e = none) := by
  cases o with
  | none => simp
  | some x => simp [hρ]

theorem stepA_val (hR : Rel G M w) {alt : Bool} {o : Oper} {ρ : Operand → V} {e : Operand → Value} (hρ : ∀ y, VR G (ρ y) (e y)) {x : V} {M' : AMem} (h : stepA P alt o ρ M = .val x M') : Gives P G w (execOp e o) x M' := by
  unfold stepA at h
  unfold execOp
  cases ho : o.op with
  | move y => rw [ho] at h; exact gives_pure hR (hρ y) h
  | assign y => rw [ho] at h; exact gives_pure hR (hρ y) h
  | pick c a b =>
    rw [ho] at h
    simp only at h ⊢
    have hc := hρ c
    split at h
    · rename_i t ht
      rw [ht] at hc
      have he : e c = .bool t := by
        generalize e c = z at hc
        cases hc
        rfl
      injection h with h1 h2
      subst h1; subst h2
      refine ⟨if t then e a else e b, .value (if t then e a else e b), w, G, by simp [he, asBool], .inl rfl, .refl G, hR, ?_⟩
      cases t
      · exact hρ b
      · exact hρ a
    · cases h
  | alloc t =>
    rw [ho] at h
    simp only at h ⊢
    split at h
    · rename_i z hz
      injection h with h1 h2
      subst h1; subst h2
      exact (snd_alloc hR hz).gives
    · cases h
  | box t y =>
    rw [ho] at h
    simp only at h ⊢
    split at h
    · rename_i hok
      split at h
      · injection h with h1 h2
        subst h1; subst h2
        exact (snd_boxI hR (hρ y) hok).gives
      · injection h with h1 h2
        subst h1; subst h2
        exact (snd_box hR (hρ y) hok).gives
    · cases h
  | build t parts =>
    rw [ho] at h
    simp only at h ⊢
    split at h
    · rename_i fs hfs
      split at h
      · rename_i hall
        obtain ⟨hl, hp⟩ := parts_rel hρ parts
        have := gives_ofV (P := P) (w := w) (s := Instr.build t (parts.map fun p => (p.1, e p.2))) h (fun z hz => by
          have := snd_build hR hl hp hz (fun fs' hfs' f hf => by
            rw [hfs] at hfs'
            injection hfs' with hfs'
            subst hfs'
            have := List.all_eq_true.1 hall f hf
            exact of_decide_eq_true this)
          have e1 : (parts.toList.map fun p => (p.1, e p.2)).toArray = parts.map fun p => (p.1, e p.2) := by
            rw [← Array.toList_map]
          rw [e1] at this
          exact this)
        exact this
      · cases h
    · cases h
  | buildSlice t len parts =>
    rw [ho] at h
    simp only at h ⊢
    obtain ⟨hl, hp⟩ := parts_rel hρ parts
    have := gives_ofV (P := P) (w := w) (s := Instr.buildSlice t len (parts.map fun p => (p.1, e p.2))) h (fun z hz => by
      have := snd_buildSlice hR hl hp (t := t) (len := len) (z := z) (by
        rw [List.map_map, List.map_map]
        exact hz)
      have e1 : (parts.toList.map fun p => (p.1, e p.2)).toArray = parts.map fun p => (p.1, e p.2) := by
        rw [← Array.toList_map]
      rw [e1] at this
      exact this)
    exact this
  | load t y => rw [ho] at h; exact gives_ofV h (fun z hz => snd_load hR (hρ y) hz)
  | store t a y => rw [ho] at h; exact gives_ofM h (fun z hz => snd_store hR (hρ a) (hρ y) hz)
  | nilCheck y =>
    rw [ho] at h
    simp only at h ⊢
    have hy := hρ y
    split at h
    · rename_i i off hp
      rw [hp] at hy
      generalize e y = z at hy
      cases hy with
      | ptr i off hi => exact gives_pure hR (.ptr i off hi) h
    · rename_i cs hp
      rw [hp] at hy
      generalize e y = z at hy
      cases hy with
      | pc cs b o val h1 h2 => exact gives_pure hR (.pc cs b o val h1 h2) h
    · rename_i f cs hp
      rw [hp] at hy
      generalize e y = z at hy
      cases hy with
      | fn f cs a hn hv => exact gives_pure hR (.fn f cs a hn hv) h
    · cases h
  | binOp op t y z ty => rw [ho] at h; exact gives_ofV h (fun q hq => snd_bin hR (hρ y) (hρ z) hq)
  | unOp op t y => rw [ho] at h; exact gives_ofV h (fun q hq => snd_un hR (hρ y) hq)
  | convert s d y => rw [ho] at h; exact gives_ofV h (fun q hq => snd_conv hR (hρ y) hq)
  | makeFunc fn first captured =>
    rw [ho] at h
    simp only at h ⊢
    split at h
    · rename_i f hfirst
      injection h with h1 h2
      subst h1; subst h2
      have hf : first = #[] := by
        cases first
        simp at hfirst
        subst hfirst
        rfl
      subst hf
      refine Snd.gives (s := Instr.makeFunc (.func f) (Array.map e #[]) (captured.map e)) (.pure hR (v := .func (.func f) #[] (captured.map e)) (by simp [Instr.makeFunc]) (.fn f (captured.toList.map ρ) _ (by simp) (fun j x v hx hv => ?_)))
      rw [List.getElem?_map, Array.getElem?_toList] at hx
      rw [Array.getElem?_map] at hv
      obtain ⟨y, hy, rfl⟩ := Option.map_eq_some_iff.1 hx
      rw [hy] at hv
      simp at hv
      subst hv
      exact hρ y
    · cases h
  | makeMap t r =>
    rw [ho] at h
    simp only at h ⊢
    split at h
    · injection h with h1 h2
      subst h1; subst h2
      exact (snd_makeMap hR t).gives
    · cases h
  | makeSlice t l c =>
    rw [ho] at h
    simp only at h ⊢
    split at h
    · rename_i z z' n hm
      injection h with h1 h2
      subst h1; subst h2
      exact (snd_makeSlice hR (hρ l) (hρ c) hm).gives
    · cases h
  | slice t y lo hi mx =>
    rw [ho] at h
    exact gives_ofV h (fun z hz => snd_slice hR (hρ y) (opt_rel hρ lo).1 (opt_rel hρ lo).2 (opt_rel hρ hi).1 (opt_rel hρ hi).2 (opt_rel hρ mx).1 (opt_rel hρ mx).2 hz)
  | fieldAddr s y f => rw [ho] at h; exact gives_ofV h (fun q hq => snd_fieldAddr hR (hρ y) hq)
  | field s y f => rw [ho] at h; exact gives_ofV h (fun q hq => snd_field hR (hρ y) hq)
  | indexAddr t y ix => rw [ho] at h; exact gives_ofV h (fun q hq => snd_indexAddr hR (hρ y) (hρ ix) hq)
  | index t y ix => rw [ho] at h; exact gives_ofV h (fun q hq => snd_index hR (hρ y) (hρ ix) hq)
  | lookup t y ix ok => rw [ho] at h; exact gives_ofV h (fun q hq => snd_lookup hR (hρ y) (hρ ix) hq)
  | mapUpdate t m k y => rw [ho] at h; exact gives_ofM h (fun z hz => snd_mapPut hR (hρ m) (hρ k) (hρ y) hz)
  | insert t m k y => rw [ho] at h; exact gives_ofM h (fun z hz => snd_mapPut hR (hρ m) (hρ k) (hρ y) hz)
  | extract y i => rw [ho] at h; exact gives_ofV h (fun q hq => snd_extract hR (hρ y) hq)
  | call c =>
    rw [ho] at h
    simp only [callA] at h ⊢
    split at h
    · split at h
      · split at h <;> cases h
      · cases h
    · rename_i hcal
      split at h
      · rename_i y t h1 h2
        have ha : c.args = #[y] := by rw [← Array.toArray_toList (xs := c.args), h1]
        have ht : c.argTypes = #[t] := by rw [← Array.toArray_toList (xs := c.argTypes), h2]
        have := gives_ofV (P := P) (w := w) (s := Builtin.len_ #[t] o.type #[e y]) h (fun z hz => snd_len hR (hρ y) hz)
        obtain ⟨val, nx, w', G', g1, g2⟩ := this
        refine ⟨val, nx, w', G', ?_, g2⟩
        rw [← g1]
        simp [resolve, hcal, invoke, builtin, ha, ht]
      · cases h
    · rename_i hcal
      split at h
      · rename_i y z t t2 h1 h2
        have ha : c.args = #[y, z] := by rw [← Array.toArray_toList (xs := c.args), h1]
        have ht : c.argTypes = #[t, t2] := by rw [← Array.toArray_toList (xs := c.argTypes), h2]
        cases hap : appendA P alt t t2 M (ρ y) (ρ z) with
        | none => rw [hap] at h; cases h
        | some r =>
          obtain ⟨q, M2⟩ := r
          rw [hap] at h
          simp only [ofVM] at h
          injection h with h1 h2
          subst h1; subst h2
          have := (snd_append hR (ty := o.type) (hρ y) (hρ z) hap).gives
          obtain ⟨val, nx, w', G', g1, g2⟩ := this
          refine ⟨val, nx, w', G', ?_, g2⟩
          rw [← g1]
          simp [resolve, hcal, invoke, builtin, ha, ht]
      · cases h
    · rename_i hcal
      split at h
      · rename_i y z h1
        have ha : c.args = #[y, z] := by rw [← Array.toArray_toList (xs := c.args), h1]
        have hy := hρ y
        have hz := hρ z
        split at h
        · rename_i k a k' b e1 e2
          rw [e1] at hy
          rw [e2] at hz
          have hy' : e y = .int k a := by generalize e y = q at hy; cases hy; rfl
          have hz' : e z = .int k' b := by generalize e z = q at hz; cases hz; rfl
          injection h with h1 h2
          subst h1; subst h2
          refine ⟨.int k (if b < a then b else a), .value (.int k (if b < a then b else a)), w, G, ?_, .inl rfl, .refl G, hR, .prim _⟩
          simp [resolve, hcal, invoke, builtin, ha, Builtin.min_, Builtin.min2, hy', hz']
        · cases h
      · cases h
    · cases h
  | _ => rw [ho] at h; cases h

theorem stepA_call (hR : Rel G M w) {alt : Bool} {o : Oper} {ρ : Operand → V} {e : Operand → Value} (hρ : ∀ y, VR G (ρ y) (e y)) {f : FuncId} {args : List V} (h : stepA P alt o ρ M = .call f args) :
    ∃ vals : Array Value, (execOp e o).run P w = .ok (.enter f vals) w ∧ vals.size = args.length ∧ ∀ (j : Nat) (x : V) (v : Value), args[j]? = some x → vals[j]? = some v → VR G x v := by
  have noV : ∀ r, ofV M r ≠ .call f args := by intro r; cases r <;> simp [ofV]
  have noM : ∀ r, ofM r ≠ .call f args := by intro r; cases r <;> simp [ofM]
  have noVM : ∀ r, ofVM r ≠ .call f args := by intro r; cases r <;> simp [ofVM]
  unfold stepA at h
  cases ho : o.op with
  | call c =>
    rw [ho] at h
    simp only [callA] at h
    split at h
    · rename_i fo hcal
      have hf := hρ fo
      split at h
      · rename_i g caps hg
        split at h
        · rename_i hb
          injection h with h1 h2
          subst h1; subst h2
          rw [hg] at hf
          generalize hq : e fo = q at hf
          cases hf with
          | fn _ cs a hn hv =>
            unfold bodyT at hb
            split at hb
            · rename_i fn hfn
              simp only [Bool.and_eq_true, Bool.not_eq_true'] at hb
              have hbn : fn.body.isNone = false := by
                cases hbody : fn.body <;> simp_all
              refine ⟨c.args.map e ++ a, ?_, by simp [hn], fun j x v hx hv' => ?_⟩
              · unfold execOp
                have hb2 : ¬ fn.name = "runtime.NumGoroutine" := fun he => by have := hb.2; rw [he] at this; simp at this
                have hb3 : ¬ fn.body = none := fun he => by rw [he] at hbn; cases hbn
                simp [ho, resolve, hcal, hq, Deferred.ofValue, invoke, callFunc, hfn]
                rw [if_neg hb2, if_neg hb3]
              · rw [List.getElem?_append] at hx
                rw [Array.getElem?_append] at hv'
                simp only [List.length_map, Array.length_toList] at hx
                simp only [Array.size_map] at hv'
                split at hx
                · rename_i hj
                  rw [if_pos hj] at hv'
                  rw [List.getElem?_map, Array.getElem?_toList] at hx
                  rw [Array.getElem?_map] at hv'
                  obtain ⟨y, hy, rfl⟩ := Option.map_eq_some_iff.1 hx
                  rw [hy] at hv'
                  simp at hv'
                  subst hv'
                  exact hρ y
                · rename_i hj
                  rw [if_neg hj] at hv'
                  exact hv _ x v hx hv'
            · cases hb
        · cases h
      · cases h
    · split at h
      · exact absurd h (noV _)
      · cases h
    · split at h
      · exact absurd h (noVM _)
      · cases h
    · split at h
      · split at h <;> cases h
      · cases h
    · cases h
  | _ =>
    rw [ho] at h
    simp only at h
    repeat' (first | (exact absurd h (noV _)) | (exact absurd h (noM _)) | (exact absurd h (noVM _)) | (cases h; done) | split at h)

end
end Go.Ax

/- The abstract machine, part 11: a region whose order is open: whatever the order, it comes to what one order comes to, if what only reads is the same whenever it is read. -/
import Derived.Test.YtfpmohmhiecjfaaDoorAx10
set_option linter.unusedVariables false
set_option linter.unusedSimpArgs false
namespace Go.Ax
open Go.RowKit

def evalF (f : Nat → V) : Operand → V
  | .tmp t => f t
  | .const v => constV v
  | .global _ => .junk
  | .func f => .fn f []

theorem evalA_eq (F : Fr) : evalA F = evalF (look F) := by
  funext x
  cases x <;> rfl

def fput (dst : Option Nat) (v : V) (f : Nat → V) : Nat → V :=
  match dst with
  | some d => fun t => if t = d then v else f t
  | none => f

theorem look_put (dst : Option Nat) (v : V) (F : Fr) : look (put dst v F) = fput dst v (look F) := by
  cases dst with
  | none => rfl
  | some d => funext t; simp [put, fput, look]

def guardF (dsts : List (Option Nat)) (o : Oper) (f : Nat → V) : Option Bool :=
  match o.guard with
  | none => some true
  | some (j, want) => match dsts[j]? with
    | some (some t) => guardV (f t) want
    | _ => none

theorem guardA_eq (dsts : List (Option Nat)) (o : Oper) (F : Fr) : guardA dsts o F = guardF dsts o (look F) := rfl

section
variable (P : Program) (pol : List Nat) (N : Nat) (ops : Array Oper)

/-- One operation of a region, whatever it is. -/
def AStep (i : Nat) (K : (Nat → V) → AMem → Prop) (f : Nat → V) (M : AMem) : Prop :=
  match ops[i]? with
  | none => K f M
  | some o => match guardF (ops.toList.map (·.dst)) o f with
    | some true => match stepA P (altOf pol o.dst) o (evalF f) M with
      | .val v M' => K (fput o.dst v f) M'
      | .call g args => ∃ R, ACalls P g args M R ∧ ∀ v M', R v M' → K (fput o.dst v f) M'
      | .bad => False
    | some false => K (fput o.dst (.prim undef) f) M
    | none => False

/-- Does an operation of this kind not even read memory? -/
def stillOp : Op → Bool
  | .move _ | .assign _ | .pick .. | .build .. | .buildSlice .. | .nilCheck _ | .binOp .. | .unOp .. | .convert .. | .makeFunc .. | .fieldAddr .. | .field .. | .indexAddr .. | .extract .. => true
  | _ => false

/-- Does an operation of this kind change nothing? -/
def quietOp : Op → Bool
  | .move _ | .assign _ | .pick .. | .build .. | .buildSlice .. | .load .. | .nilCheck _ | .binOp .. | .unOp .. | .convert .. | .makeFunc .. | .slice .. | .fieldAddr .. | .field .. | .indexAddr .. | .index .. | .lookup .. | .extract .. => true
  | .call { callee := .builtin .len, .. } | .call { callee := .builtin .min, .. } => true
  | _ => false

/-- Does this operation come last of all, but for what does not read memory? -/
def lastOp (ops : Array Oper) (j : Nat) : Bool :=
  match ops[j]? with
  | some oj => (List.range ops.size).all fun k => k == j || (oj.after.toList.any fun e => Region.binds .any e && (e.on == k || (match ops[e.on]? with | some oq => oq.after.toList.any fun e2 => Region.binds .any e2 && e2.on == k | none => false))) || (match ops[k]? with | some ok => stillOp ok.op || !quietOp ok.op | none => true)
  | none => false

def looseOp (ops : Array Oper) (j : Nat) : Bool := lastOp ops j || (match ops[j]? with | some o => stillOp o.op | none => true)

/-- A region's operations in whatever order the edges allow; what S says holds all the while (but behind what comes last). -/
def AAny (S : AMem → Prop) (Q : (Nat → V) → AMem → Prop) : Nat → Array Bool → (Nat → V) → AMem → Prop
  | 0, listed, f, M => Region.ready .any ops listed = [] ∧ Q f M
  | fuel + 1, listed, f, M => (Region.ready .any ops listed = [] → Q f M) ∧ ∀ i ∈ Region.ready .any ops listed, AStep P pol ops i (fun f M => (S M ∨ looseOp ops i = true) ∧ AAny S Q fuel (listed.setIfInBounds i true) f M) f M
end

section
variable {P : Program} {pol : List Nat} {N : Nat} {ops : Array Oper}

theorem AStep_mono {i : Nat} {K K' : (Nat → V) → AMem → Prop} (hk : ∀ f M, K f M → K' f M) {f : Nat → V} {M : AMem} (h : AStep P pol ops i K f M) : AStep P pol ops i K' f M := by
  unfold AStep at *
  cases ho : ops[i]? with
  | none => simp only [ho] at h ⊢; exact hk _ _ h
  | some o =>
    simp only [ho] at h ⊢
    generalize guardF (ops.toList.map (·.dst)) o f = g at h ⊢
    rcases g with _ | _ | _
    · exact h.elim
    · exact hk _ _ h
    · simp only at h ⊢
      generalize stepA P (altOf pol o.dst) o (evalF f) M = r at h ⊢
      cases r with
      | val v M' => exact hk _ _ h
      | call g args =>
        obtain ⟨R, h1, h2⟩ := h
        exact ⟨R, h1, fun v M' hr => hk _ _ (h2 v M' hr)⟩
      | bad => exact h.elim

theorem look_exists (F : Fr) : ∃ F', look F' = look F := ⟨F, rfl⟩

/-- FR over a frame as a function. -/
structure FRf (G : Gh) (N : Nat) (f : Nat → V) (a : Act) : Prop where
  defers : a.defers = []
  size : a.tmps.size = N
  vals : ∀ t, VR G (f t) (a.tmps.getD t undef)

theorem FRf.eval {G : Gh} {f : Nat → V} {a : Act} (hf : FRf G N f a) (x : Operand) : VR G (evalF f x) (a.eval x) := by
  cases x with
  | tmp t => exact hf.vals t
  | const v => exact VR_constV G v
  | global g => exact .junk _
  | func f => exact .fn f [] #[] rfl (fun j x v hx => by simp at hx)

theorem FRf.mono {G G' : Gh} (h : G.le G') {f : Nat → V} {a : Act} (hf : FRf G N f a) : FRf G' N f a := ⟨hf.defers, hf.size, fun t => (hf.vals t).mono h⟩

theorem FRf.put {G : Gh} {f : Nat → V} {a : Act} (hf : FRf G N f a) {dst : Option Nat} {x : V} {v : Value} (hd : ∀ d, dst = some d → d < N) (hv : VR G x v) : FRf G N (fput dst x f) (a.put dst v) := by
  cases dst with
  | none => exact hf
  | some d =>
    have hdN := hd d rfl
    refine ⟨hf.defers, by simp [Act.put, hf.size], fun t => ?_⟩
    simp only [fput, Act.put]
    by_cases h : t = d
    · subst h
      rw [if_pos rfl, Array.getD_eq_getD_getElem?, Array.getElem?_setIfInBounds_self_of_lt (by rw [hf.size]; exact hdN)]
      exact hv
    · rw [if_neg h, Array.getD_eq_getD_getElem?, Array.getElem?_setIfInBounds_ne (fun e => h e.symm), ← Array.getD_eq_getD_getElem?]
      exact hf.vals t

theorem guardF_sound {G : Gh} {f : Nat → V} {a : Act} (hF : FRf G N f a) {o : Oper} {b : Bool} (h : guardF (ops.toList.map (·.dst)) o f = some b) (hN : ∀ (j : Nat) (o : Oper) (d : Nat), ops[j]? = some o → o.dst = some d → d < N) :
    Region.wanted o (yielded ops a.tmps) = b := by
  unfold guardF at h
  unfold Region.wanted
  cases hg : o.guard with
  | none => rw [hg] at h; simp at h; simp [h]
  | some p =>
    obtain ⟨j, want⟩ := p
    rw [hg] at h
    simp only at h ⊢
    split at h
    · rename_i t ht
      rw [List.getElem?_map, Array.getElem?_toList] at ht
      obtain ⟨oj, hoj, ht⟩ := Option.map_eq_some_iff.1 ht
      unfold guardV at h
      split at h
      · rename_i b' hb'
        injection h with h
        have hv := hF.vals t
        rw [hb'] at hv
        have hlt : t < a.tmps.size := by rw [hF.size]; exact hN j oj t hoj ht
        have ht2 : a.tmps[t]? = some (.bool b') := by
          rw [Array.getElem?_eq_getElem hlt]
          congr 1
          rw [Array.getD_eq_getD_getElem?, Array.getElem?_eq_getElem hlt] at hv
          simp only [Option.getD_some] at hv
          generalize a.tmps[t] = z at hv
          cases hv
          rfl
        have hy : yielded ops a.tmps j = some b' := by
          unfold yielded
          rw [hoj]
          simp only [Option.bind_some, ht, ht2]
        rw [hy, ← h]
        cases b' <;> cases want <;> rfl
      · rename_i b' hb'
        injection h with h
        have hv := hF.vals t
        rw [hb'] at hv
        have hlt : t < a.tmps.size := by rw [hF.size]; exact hN j oj t hoj ht
        have ht2 : a.tmps[t]? = some (.tuple b') := by
          rw [Array.getElem?_eq_getElem hlt]
          congr 1
          rw [Array.getD_eq_getD_getElem?, Array.getElem?_eq_getElem hlt] at hv
          simp only [Option.getD_some] at hv
          generalize a.tmps[t] = z at hv
          cases hv
          rfl
        have hy : yielded ops a.tmps j = none := by
          unfold yielded
          rw [hoj]
          simp only [Option.bind_some, ht, ht2]
        rw [hy, ← h]
        cases want <;> rfl
      · cases h
    · cases h

theorem astep_sound (hN : ∀ (j : Nat) (o : Oper) (d : Nat), ops[j]? = some o → o.dst = some d → d < N) {i : Nat} {K : (Nat → V) → AMem → Prop} {f : Nat → V} {M : AMem} (h : AStep P pol ops i K f M) {G : Gh} {a : Act} {w : World} (hR : Rel G M w) (hF : FRf G N f a)
    {Q : Exit → Act → World → Prop} {K' : Act → World → Prop} (hK : ∀ G' f' M' a' w', G.le G' → Rel G' M' w' → FRf G' N f' a' → K f' M' → K' a' w') : wpOp P ops Q i K' a w := by
  unfold AStep at h
  unfold wpOp
  split at h
  · rename_i ho
    simp only [ho]
    exact hK G f M a w (.refl G) hR hF h
  · rename_i o ho
    simp only [ho]
    have hd := fun d hd => hN i o d ho hd
    split at h
    · rename_i hg
      rw [guardF_sound hF hg hN]
      simp only [if_true]
      refine .inl ?_
      split at h
      · rename_i v M' hs
        obtain ⟨val, nx, w', G', h1, h2, h3, h4, h5⟩ := stepA_val hR (fun y => hF.eval y) hs
        unfold Oper.wp
        rw [h1]
        have fin : ∀ u, VR G' v u → K' (a.put o.dst u) w' := fun u hu => hK G' _ M' _ w' h3 h4 ((hF.mono h3).put hd hu) h
        rcases h2 with rfl | ⟨rfl, rfl⟩
        · exact fin val h5
        · exact fin undef h5
      · rename_i g args hs
        obtain ⟨R, hc, hr⟩ := h
        obtain ⟨vals, h1, h2, h3⟩ := stepA_call hR (fun y => hF.eval y) hs
        unfold Oper.wp
        rw [h1]
        refine (hc G w vals hR h2 h3).mono ?_
        rintro e w' ⟨val, G', x, M', rfl, g1, g2, g3, g4⟩
        exact hK G' _ M' _ w' g1 g2 ((hF.mono g1).put hd g3) (hr x M' g4)
      · exact h.elim
    · rename_i hg
      rw [guardF_sound hF hg hN]
      simp only [Bool.false_eq_true, if_false]
      exact hK G _ M _ w (.refl G) hR (hF.put hd (.prim undef)) h
    · exact h.elim

theorem aany_sound (hN : ∀ (j : Nat) (o : Oper) (d : Nat), ops[j]? = some o → o.dst = some d → d < N) {S : AMem → Prop} {Q : (Nat → V) → AMem → Prop} {Q' : Exit → Act → World → Prop} {G0 : Gh}
    (hQ : ∀ G f M a w, G0.le G → Rel G M w → FRf G N f a → Q f M → Q' .normal a w) : ∀ (fuel : Nat) (listed : Array Bool) (f : Nat → V) (M : AMem), AAny P pol ops S Q fuel listed f M → ∀ G a w, G0.le G → Rel G M w → FRf G N f a → wpAny P .any ops Q' fuel listed a w := by
  intro fuel
  induction fuel with
  | zero => exact fun listed f M h G a w hG hR hF => ⟨h.1, hQ G f M a w hG hR hF h.2⟩
  | succ fuel ih =>
    intro listed f M h G a w hG hR hF
    refine ⟨fun h0 => hQ G f M a w hG hR hF (h.1 h0), fun i hi => ?_⟩
    exact astep_sound hN (h.2 i hi) hR hF fun G' f' M' a' w' hG' hR' hF' hk => ih _ f' M' hk.2 G' a' w' (hG.trans hG') hR' hF'

/-! ### What only reads may be done first -/
/-- An operation that gives a value, the same in whatever memory S allows, and changes nothing. -/
def QuietA (P : Program) (pol : List Nat) (ops : Array Oper) (S : AMem → Prop) (o : Oper) (f : Nat → V) (v : V) : Prop :=
  (guardF (ops.toList.map (·.dst)) o f = some true ∧ ∀ M, S M → stepA P (altOf pol o.dst) o (evalF f) M = .val v M) ∨ (guardF (ops.toList.map (·.dst)) o f = some false ∧ v = .prim undef)

theorem QuietA.step {S : AMem → Prop} {i : Nat} {o : Oper} (ho : ops[i]? = some o) {f : Nat → V} {v : V} (hq : QuietA P pol ops S o f v) {M : AMem} (hS : S M) {K : (Nat → V) → AMem → Prop} (h : K (fput o.dst v f) M) : AStep P pol ops i K f M := by
  unfold AStep
  simp only [ho]
  rcases hq with ⟨h1, h2⟩ | ⟨h1, rfl⟩
  · simp only [h1, h2 M hS]; exact h
  · simp only [h1]; exact h

theorem evalF_fput {dst : Option Nat} {v : V} {f : Nat → V} {x : Operand} (h : ∀ d, dst = some d → x ≠ .tmp d) : evalF (fput dst v f) x = evalF f x := by
  cases dst with
  | none => rfl
  | some d =>
    cases x with
    | tmp t =>
      have : t ≠ d := fun e => h d rfl (by rw [e])
      simp [evalF, fput, this]
    | _ => rfl

theorem looks_tmp {o : Oper} {d : Nat} (h : d ∉ o.looksAt ops) {x : Operand} (hx : x ∈ o.op.operands) : x ≠ .tmp d := by
  rintro rfl
  refine h ?_
  unfold Oper.looksAt
  refine List.mem_append.2 (.inl (List.mem_filterMap.2 ⟨.tmp d, by simpa using hx, rfl⟩))

theorem guardF_fput {o : Oper} {dst : Option Nat} {v : V} {f : Nat → V} (h : ∀ d, dst = some d → d ∉ o.looksAt ops) : guardF (ops.toList.map (·.dst)) o (fput dst v f) = guardF (ops.toList.map (·.dst)) o f := by
  unfold guardF
  cases hg : o.guard with
  | none => rfl
  | some p =>
    obtain ⟨j, want⟩ := p
    simp only
    cases hj : (ops.toList.map (·.dst))[j]? with
    | none => rfl
    | some dj =>
      cases dj with
      | none => rfl
      | some t =>
        simp only
        have : fput dst v f t = f t := by
          cases dst with
          | none => rfl
          | some d =>
            have hne : t ≠ d := by
              rintro rfl
              refine h t rfl ?_
              unfold Oper.looksAt
              rw [hg]
              refine List.mem_append.2 (.inr ?_)
              rw [List.getElem?_map, Array.getElem?_toList] at hj
              obtain ⟨oj, hoj, he⟩ := Option.map_eq_some_iff.1 hj
              simp [hoj, he]
            simp [fput, hne]
        rw [this]

theorem stepA_congr {alt : Bool} {o : Oper} {ρ ρ' : Operand → V} {M : AMem} (h : ∀ x ∈ o.op.operands, ρ x = ρ' x) : stepA P alt o ρ M = stepA P alt o ρ' M := by
  unfold stepA
  cases ho : o.op with
  | move y => simp [h y (by rw [ho]; simp [Op.operands])]
  | assign y => simp [h y (by rw [ho]; simp [Op.operands])]
  | pick c a b => simp [h c (by rw [ho]; simp [Op.operands]), h a (by rw [ho]; simp [Op.operands]), h b (by rw [ho]; simp [Op.operands])]
  | alloc t => rfl
  | box t y => simp [h y (by rw [ho]; simp [Op.operands])]
  | build t parts =>
    have : (parts.toList.map fun p => (p.1, ρ p.2)) = (parts.toList.map fun p => (p.1, ρ' p.2)) := List.map_congr_left fun p hp => by
      rw [h p.2 (by rw [ho]; simp [Op.operands]; exact ⟨p.1, by simpa using hp⟩)]
    simp [this]
  | buildSlice t len parts =>
    have : (parts.toList.map fun p => ρ p.2) = (parts.toList.map fun p => ρ' p.2) := List.map_congr_left fun p hp => by
      rw [h p.2 (by rw [ho]; simp [Op.operands]; exact ⟨p.1, by simpa using hp⟩)]
    simp [this]
  | load t y => simp [h y (by rw [ho]; simp [Op.operands])]
  | store t a y => simp [h a (by rw [ho]; simp [Op.operands]), h y (by rw [ho]; simp [Op.operands])]
  | nilCheck y => simp [h y (by rw [ho]; simp [Op.operands])]
  | binOp op t y z ty => simp [h y (by rw [ho]; simp [Op.operands]), h z (by rw [ho]; simp [Op.operands])]
  | unOp op t y => simp [h y (by rw [ho]; simp [Op.operands])]
  | convert s d y => simp [h y (by rw [ho]; simp [Op.operands])]
  | makeFunc fn first captured =>
    have : captured.toList.map ρ = captured.toList.map ρ' := List.map_congr_left fun p hp => h p (by rw [ho]; simp [Op.operands]; exact .inr (by simpa using hp))
    simp [this]
  | makeMap t r => rfl
  | makeSlice t l c => simp [h l (by rw [ho]; simp [Op.operands]), h c (by rw [ho]; simp [Op.operands])]
  | slice t y lo hi mx =>
    have e1 : lo.map ρ = lo.map ρ' := by cases lo with | none => rfl | some z => simp [h z (by rw [ho]; simp [Op.operands])]
    have e2 : hi.map ρ = hi.map ρ' := by cases hi with | none => rfl | some z => simp [h z (by rw [ho]; simp [Op.operands])]
    have e3 : mx.map ρ = mx.map ρ' := by cases mx with | none => rfl | some z => simp [h z (by rw [ho]; simp [Op.operands])]
    simp [h y (by rw [ho]; simp [Op.operands]), e1, e2, e3]
  | fieldAddr s y f => simp [h y (by rw [ho]; simp [Op.operands])]
  | field s y f => simp [h y (by rw [ho]; simp [Op.operands])]
  | indexAddr t y ix => simp [h y (by rw [ho]; simp [Op.operands]), h ix (by rw [ho]; simp [Op.operands])]
  | index t y ix => simp [h y (by rw [ho]; simp [Op.operands]), h ix (by rw [ho]; simp [Op.operands])]
  | lookup t y ix ok => simp [h y (by rw [ho]; simp [Op.operands]), h ix (by rw [ho]; simp [Op.operands])]
  | mapUpdate t m k y => simp [h m (by rw [ho]; simp [Op.operands]), h k (by rw [ho]; simp [Op.operands]), h y (by rw [ho]; simp [Op.operands])]
  | insert t m k y => simp [h m (by rw [ho]; simp [Op.operands]), h k (by rw [ho]; simp [Op.operands]), h y (by rw [ho]; simp [Op.operands])]
  | extract y i => simp [h y (by rw [ho]; simp [Op.operands])]
  | call c =>
    have hargs : ∀ x ∈ c.args.toList, ρ x = ρ' x := fun x hx => h x (by rw [ho]; simp [Op.operands, Call.operands]; exact .inr (by simpa using hx))
    have hmap : c.args.toList.map ρ = c.args.toList.map ρ' := List.map_congr_left hargs
    simp only [callA]
    split
    · rename_i g hg
      rw [hmap, h g (by rw [ho]; simp [Op.operands, Call.operands, hg])]
    · split
      · rename_i x t h1 h2
        rw [hargs x (by rw [h1]; simp)]
      · rfl
    · split
      · rename_i x y t t2 h1 h2
        rw [hargs x (by rw [h1]; simp), hargs y (by rw [h1]; simp)]
      · rfl
    · split
      · rename_i x y h1
        rw [hargs x (by rw [h1]; simp), hargs y (by rw [h1]; simp)]
      · rfl
    · rfl
  | _ => rfl

theorem stepA_fput {alt : Bool} {o : Oper} {dst : Option Nat} {v : V} {f : Nat → V} {M : AMem} (h : ∀ d, dst = some d → d ∉ o.looksAt ops) : stepA P alt o (evalF (fput dst v f)) M = stepA P alt o (evalF f) M :=
  stepA_congr fun x hx => evalF_fput fun d hd => looks_tmp (h d hd) hx

theorem fput_comm {x y : Option Nat} (v u : V) (f : Nat → V) (h : ∀ d, x = some d → y ≠ some d) : fput x v (fput y u f) = fput y u (fput x v f) := by
  cases x with
  | none => rfl
  | some a =>
    cases y with
    | none => rfl
    | some b =>
      have hne : a ≠ b := fun e => h a rfl (by rw [e])
      funext t
      simp only [fput]
      by_cases h1 : t = a
      · rw [if_pos h1, if_neg (fun h2 => hne (h1.symm.trans h2)), if_pos h1]
      · rw [if_neg h1, if_neg h1]

theorem QuietA.fput {S : AMem → Prop} {o oj : Oper} {f : Nat → V} {v u : V} (hq : QuietA P pol ops S o f v) (h : ∀ d, oj.dst = some d → d ∉ o.looksAt ops) : QuietA P pol ops S o (Ax.fput oj.dst u f) v := by
  rcases hq with ⟨h1, h2⟩ | ⟨h1, h2⟩
  · exact .inl ⟨by rw [guardF_fput h]; exact h1, fun M hM => by rw [stepA_fput h]; exact h2 M hM⟩
  · exact .inr ⟨by rw [guardF_fput h]; exact h1, h2⟩

theorem astep_put {S : AMem → Prop} {j : Nat} {oi oj : Oper} {v : V} (hj : ops[j]? = some oj) (hap : oi.apart ops oj = true) {K : (Nat → V) → AMem → Prop} {f : Nat → V} {M : AMem} (hq : QuietA P pol ops S oi f v)
    (h : AStep P pol ops j K (fput oi.dst v f) M) : AStep P pol ops j (fun f' M' => QuietA P pol ops S oi f' v ∧ K (fput oi.dst v f') M') f M := by
  obtain ⟨h1, h2, h3⟩ := Oper.apart_spec hap
  unfold AStep at *
  simp only [hj] at *
  rw [guardF_fput h1, stepA_fput h1] at h
  generalize hgg : guardF (ops.toList.map (·.dst)) oj f = g at h ⊢
  rcases g with _ | _ | _
  · exact h.elim
  · exact ⟨hq.fput h3, by rw [fput_comm _ _ _ h2]; exact h⟩
  · simp only at h ⊢
    generalize stepA P (altOf pol oj.dst) oj (evalF f) M = r at h ⊢
    cases r with
    | val u M' => exact ⟨hq.fput h3, by rw [fput_comm _ _ _ h2]; exact h⟩
    | call g args =>
      obtain ⟨R, c1, c2⟩ := h
      exact ⟨R, c1, fun u M' hr => ⟨hq.fput h3, by rw [fput_comm _ _ _ h2]; exact c2 u M' hr⟩⟩
    | bad => exact h.elim

theorem still_step {alt : Bool} {o : Oper} (hq : stillOp o.op = true) {ρ : Operand → V} {M M1 : AMem} {v : V} (h : stepA P alt o ρ M = .val v M1) (M' : AMem) : stepA P alt o ρ M' = .val v M' ∧ M1 = M := by
  have key : ∀ {r : Option V}, ofV M r = .val v M1 → ofV M' r = .val v M' ∧ M1 = M := by
    intro r h
    cases r with
    | none => cases h
    | some z => simp only [ofV] at h ⊢; injection h with h1 h2; subst h1; exact ⟨rfl, h2.symm⟩
  unfold stepA at h ⊢
  cases ho : o.op <;> rw [ho] at h hq <;> simp only [stillOp] at hq <;> first | (cases hq; done) | skip
  all_goals
    simp only at h ⊢
    first
      | exact key h
      | (injection h with h1 h2; subst h1; exact ⟨rfl, h2.symm⟩)
      | (split at h <;> first | (injection h with h1 h2; subst h1; simp_all; done) | (cases h; done) | (exact key h))
      | (split at h <;> first | (cases h; done) | (split at h <;> first | (cases h; done) | exact key h | (rename_i hc; rw [if_pos hc]; exact key h)))

theorem AStep_still {j : Nat} {oj : Oper} (hj : ops[j]? = some oj) (hs : stillOp oj.op = true) {K : (Nat → V) → AMem → Prop} {f : Nat → V} {M : AMem} (h : AStep P pol ops j K f M) : AStep P pol ops j (fun f' M' => M' = M ∧ K f' M') f M := by
  unfold AStep at *
  simp only [hj] at *
  generalize guardF (ops.toList.map (·.dst)) oj f = g at h ⊢
  rcases g with _ | _ | _
  · exact h.elim
  · exact ⟨trivial, h⟩
  · simp only at h ⊢
    generalize hr : stepA P (altOf pol oj.dst) oj (evalF f) M = r at h ⊢
    cases r with
    | val v M' =>
      obtain ⟨_, rfl⟩ := still_step hs hr M
      exact ⟨rfl, h⟩
    | call g args =>
      exfalso
      unfold stepA at hr
      cases ho : oj.op <;> rw [ho] at hr hs <;> simp only [stillOp] at hs <;> first | (cases hs; done) | skip
      all_goals
        simp only [ofV] at hr
        first
          | (cases hr; done)
          | (split at hr <;> first | (cases hr; done) | (split at hr <;> first | (cases hr; done) | (split at hr <;> cases hr)))
    | bad => exact h

theorem QuietA.still {S : AMem → Prop} {o : Oper} {f : Nat → V} {v : V} {M : AMem} (hq : QuietA P pol ops S o f v) (hS : S M) (hs : stillOp o.op = true) : QuietA P pol ops (fun _ => True) o f v := by
  rcases hq with ⟨h1, h2⟩ | h
  · exact .inl ⟨h1, fun M' _ => (still_step hs (h2 M hS) M').1⟩
  · exact .inr h

/-- What an operation that was done waits for was done. -/
def Closed (ops : Array Oper) (listed : Array Bool) : Prop := ∀ q o, ops[q]? = some o → listed.getD q false = true → ∀ e ∈ o.after, Region.binds .any e = true → listed.getD e.on false = true
def closedB (ops : Array Oper) (listed : Array Bool) : Bool := (List.range ops.size).all fun q => !(listed.getD q false) || (match ops[q]? with | some o => o.after.toList.all fun e => !Region.binds .any e || listed.getD e.on false | none => true)
theorem closedB_spec {ops : Array Oper} {listed : Array Bool} (h : closedB ops listed = true) : Closed ops listed := by
  intro q o ho hq e he hb
  unfold closedB at h
  rw [List.all_eq_true] at h
  have h1 := h q (List.mem_range.2 (Array.getElem?_eq_some_iff.1 ho).1)
  rw [hq, ho] at h1
  simp only [Bool.not_true, Bool.false_or, List.all_eq_true] at h1
  have h2 := h1 e (by simpa using he)
  rw [hb] at h2
  simpa using h2
theorem Closed.set {listed : Array Bool} (h : Closed ops listed) {j : Nat} (hj : j ∈ Region.ready .any ops listed) : Closed ops (listed.setIfInBounds j true) := by
  intro q o ho hq e he hb
  obtain ⟨_, oj, hoj, hall⟩ := mem_ready.1 hj
  by_cases e1 : j = q
  · subst e1
    rw [hoj] at ho
    injection ho with ho
    subst ho
    exact getD_set_true (hall e he hb)
  · rw [getD_set_ne false e1] at hq
    exact getD_set_true (h q o ho hq e he hb)

theorem aany_first0 {S S' : AMem → Prop} {Q : (Nat → V) → AMem → Prop} {i : Nat} {oi : Oper} {v : V} (hi : ops[i]? = some oi) (hqo : quietOp oi.op = true) (hSS : ∀ M, S M → S' M) (hst : stillOp oi.op = true → ∀ M, S' M) :
    ∀ (fuel : Nat) (listed : Array Bool) (f : Nat → V) (M : AMem),
      Closed ops listed → (∀ j oj, ops[j]? = some oj → j ≠ i → listed.getD j true = false → (∀ e ∈ oj.after, Region.binds .any e = true → e.on ≠ i) → oi.apart ops oj = true) →
      i ∈ Region.ready .any ops listed → QuietA P pol ops S' oi f v → S' M → (S M ∨ looseOp ops i = true) →
      AAny P pol ops S Q fuel (listed.setIfInBounds i true) (fput oi.dst v f) M → AAny P pol ops S Q (fuel + 1) listed f M := by
  intro fuel
  induction fuel with
  | zero =>
    intro listed f M _ _ hr hq hS hS2 H
    refine ⟨fun h => (by rw [h] at hr; cases hr), fun j hj => ?_⟩
    by_cases hji : j = i
    · subst hji; exact hq.step hi hS ⟨hS2, H⟩
    · have := ready_mono hj hji
      rw [H.1] at this
      cases this
  | succ fuel ih =>
    intro listed f M hcl hfree hr hq hS hS2 H
    refine ⟨fun h => (by rw [h] at hr; cases hr), fun j hj => ?_⟩
    by_cases hji : j = i
    · subst hji; exact hq.step hi hS ⟨hS2, H⟩
    · have h1 := H.2 j (ready_mono hj hji)
      obtain ⟨hjun, oj, hoj, hall⟩ := mem_ready.1 hj
      have hnot : ∀ e ∈ oj.after, Region.binds .any e = true → e.on ≠ i := fun e he hb heq => by
        have h1 := hall e he hb
        have h0 := (mem_ready.1 hr).1
        rw [heq] at h1
        rcases Nat.lt_or_ge i listed.size with h' | h'
        · simp [h'] at h0 h1; rw [h0] at h1; cases h1
        · simp [Array.getElem?_eq_none h'] at h1
      have hfree' : ∀ k ok, ops[k]? = some ok → k ≠ i → (listed.setIfInBounds j true).getD k true = false →
          (∀ e ∈ ok.after, Region.binds .any e = true → e.on ≠ i) → oi.apart ops ok = true := fun k ok hk hki hun hno => by
        refine hfree k ok hk hki ?_ hno
        by_cases hjk : j = k
        · subst hjk; exact hjun
        · rw [getD_set_ne true hjk] at hun; exact hun
      have fin : ∀ f' M', S' M' → (S M' ∨ looseOp ops i = true) → QuietA P pol ops S' oi f' v → AAny P pol ops S Q fuel ((listed.setIfInBounds i true).setIfInBounds j true) (fput oi.dst v f') M' → AAny P pol ops S Q (fuel + 1) (listed.setIfInBounds j true) f' M' := by
        intro f' M' a1 a2 a3 a4
        refine ih (listed.setIfInBounds j true) f' M' (hcl.set hj) hfree' (ready_mono hr (Ne.symm hji)) a3 a1 a2 ?_
        rw [Array.setIfInBounds_comm _ _ hji]
        exact a4
      by_cases hsj : stillOp oj.op = true
      · have h2 := AStep_still hoj hsj (astep_put hoj (hfree j oj hoj hji hjun hnot) hq h1)
        have hl : looseOp ops j = true := by simp [looseOp, hoj, hsj]
        exact AStep_mono (fun f' M' ⟨e, h3⟩ => ⟨.inr hl, by subst e; exact fin f' M' hS hS2 h3.1 h3.2.2⟩) h2
      · have h2 := astep_put hoj (hfree j oj hoj hji hjun hnot) hq h1
        refine AStep_mono (fun f' M' h3 => ⟨h3.2.1, ?_⟩) h2
        rcases h3.2.1 with a | a
        · exact fin f' M' (hSS _ a) (.inl a) h3.1 h3.2.2
        · have hlast : lastOp ops j = true := by simpa [looseOp, hoj, hsj] using a
          have hst' : stillOp oi.op = true := by
            unfold lastOp at hlast
            rw [hoj] at hlast
            simp only [List.all_eq_true, List.mem_range] at hlast
            have := hlast i (Array.getElem?_eq_some_iff.1 hi).1
            simp only [hi, hqo, Bool.not_true, Bool.or_false, Bool.or_eq_true, beq_iff_eq, List.any_eq_true, Bool.and_eq_true] at this
            rcases this with (h | ⟨e, he, hb, heq⟩) | h
            · exact absurd h.symm hji
            · rcases heq with heq | heq
              · exact absurd heq (hnot e (by simpa using he) hb)
              · exfalso
                cases hoq : ops[e.on]? with
                | none => rw [hoq] at heq; cases heq
                | some oq =>
                  rw [hoq] at heq
                  simp only [List.any_eq_true, Bool.and_eq_true, beq_iff_eq] at heq
                  obtain ⟨e2, he2, hb2, heq2⟩ := heq
                  have l1 := hall e (by simpa using he) hb
                  have l2 := hcl e.on oq hoq l1 e2 (by simpa using he2) hb2
                  rw [heq2] at l2
                  have h0 := (mem_ready.1 hr).1
                  rcases Nat.lt_or_ge i listed.size with h' | h'
                  · simp [h'] at h0 l2; rw [h0] at l2; cases l2
                  · simp [Array.getElem?_eq_none h'] at l2
            · exact h
          exact fin f' M' (hst hst' _) (.inr (by simp [looseOp, hi, hst'])) h3.1 h3.2.2

theorem aany_first {S : AMem → Prop} {Q : (Nat → V) → AMem → Prop} {i : Nat} {oi : Oper} {v : V} (hi : ops[i]? = some oi) (hqo : quietOp oi.op = true)
    (fuel : Nat) (listed : Array Bool) (f : Nat → V) (M : AMem) (hcl : Closed ops listed)
      (hfree : ∀ j oj, ops[j]? = some oj → j ≠ i → listed.getD j true = false → (∀ e ∈ oj.after, Region.binds .any e = true → e.on ≠ i) → oi.apart ops oj = true)
      (hr : i ∈ Region.ready .any ops listed) (hq : QuietA P pol ops S oi f v) (hS : S M)
      (H : AAny P pol ops S Q fuel (listed.setIfInBounds i true) (fput oi.dst v f) M) : AAny P pol ops S Q (fuel + 1) listed f M := by
  by_cases hs : stillOp oi.op = true
  · exact aany_first0 (S' := fun _ => True) hi hqo (fun _ _ => trivial) (fun _ _ => trivial) fuel listed f M hcl hfree hr (hq.still hS hs) trivial (.inl hS) H
  · exact aany_first0 (S' := S) hi hqo (fun _ h => h) (fun h => absurd h hs) fuel listed f M hcl hfree hr hq hS (.inl hS) H

/-! ### In one order -/
/-- What was done. -/
def listedOf (n : Nat) (done : List Nat) : Array Bool := done.foldl (fun l i => l.setIfInBounds i true) (Array.replicate n false)

theorem listedOf_snoc (n : Nat) (done : List Nat) (i : Nat) : listedOf n (done ++ [i]) = (listedOf n done).setIfInBounds i true := by simp [listedOf]

def DR (P : Program) (pol : List Nat) (ops : Array Oper) (S : AMem → Prop) (K : Fr → AMem → Prop) (done : List Nat) (F : Fr) (M : AMem) : Prop :=
  S M → AAny P pol ops S (fun f M => ∃ F, look F = f ∧ K F M) (ops.size - done.length) (listedOf ops.size done) (look F) M

theorem DR_end {S : AMem → Prop} {K : Fr → AMem → Prop} {done : List Nat} {F : Fr} {M : AMem} (hr : Region.ready .any ops (listedOf ops.size done) = []) (h : K F M) : DR P pol ops S K done F M := by
  intro _
  cases ops.size - done.length with
  | zero => exact ⟨hr, F, rfl, h⟩
  | succ n => exact ⟨fun _ => ⟨F, rfl, h⟩, by rw [hr]; simp⟩

/-- May this operation be taken now? -/
def takeOk (ops : Array Oper) (done : List Nat) (i : Nat) : Bool :=
  decide (done.length < ops.size) && Region.free .any ops (listedOf ops.size done) i && (Region.ready .any ops (listedOf ops.size done)).contains i && closedB ops (listedOf ops.size done)

theorem DR_take {S : AMem → Prop} {K : Fr → AMem → Prop} {done : List Nat} {F : Fr} {M : AMem} {i : Nat} {o : Oper} {v : V} (ho : ops[i]? = some o) (hqo : quietOp o.op = true) (ht : takeOk ops done i = true) (hq : QuietA P pol ops S o (look F) v)
    (h : DR P pol ops S K (done ++ [i]) (put o.dst v F) M) : DR P pol ops S K done F M := by
  intro hS
  simp only [takeOk, Bool.and_eq_true, decide_eq_true_eq] at ht
  obtain ⟨⟨⟨h1, h2⟩, h3⟩, h4⟩ := ht
  have hh := h hS
  rw [listedOf_snoc, look_put, List.length_append, List.length_singleton] at hh
  have e : ops.size - done.length = (ops.size - (done.length + 1)) + 1 := by omega
  rw [e]
  exact aany_first ho hqo _ _ _ M (closedB_spec h4) (Region.free_spec ho h2) (by simpa using h3) hq hS hh

/-- Is this the one operation that can come now? -/
def soleOk (ops : Array Oper) (done : List Nat) (i : Nat) : Bool :=
  decide (done.length < ops.size) && decide (Region.ready .any ops (listedOf ops.size done) = [i])

theorem DR_sole {S : AMem → Prop} {K : Fr → AMem → Prop} {done : List Nat} {F : Fr} {M : AMem} {i : Nat} {o : Oper} (ho : ops[i]? = some o) (ht : soleOk ops done i = true) (hg : guardA (ops.toList.map (·.dst)) o F = some true)
    (h : match stepA P (altOf pol o.dst) o (evalA F) M with
      | .val v M' => S M' ∧ DR P pol ops S K (done ++ [i]) (put o.dst v F) M'
      | .call g args => ∃ R, ACalls P g args M R ∧ ∀ v M', R v M' → S M' ∧ DR P pol ops S K (done ++ [i]) (put o.dst v F) M'
      | .bad => False) : DR P pol ops S K done F M := by
  intro hS
  simp only [soleOk, Bool.and_eq_true, decide_eq_true_eq] at ht
  obtain ⟨h1, h2⟩ := ht
  have e : ops.size - done.length = (ops.size - (done.length + 1)) + 1 := by omega
  rw [e]
  refine ⟨fun h0 => (by rw [h2] at h0; cases h0), fun j hj => ?_⟩
  rw [h2] at hj
  obtain rfl : j = i := by simpa using hj
  have fin : ∀ v M', S M' ∧ DR P pol ops S K (done ++ [j]) (put o.dst v F) M' → (S M' ∨ looseOp ops j = true) ∧ AAny P pol ops S (fun f M => ∃ F, look F = f ∧ K F M) (ops.size - (done.length + 1)) ((listedOf ops.size done).setIfInBounds j true) (fput o.dst v (look F)) M' := by
    intro v M' hh
    have := hh.2 hh.1
    rw [listedOf_snoc, look_put, List.length_append, List.length_singleton] at this
    exact ⟨.inl hh.1, this⟩
  unfold AStep
  simp only [ho]
  rw [guardA_eq] at hg
  simp only [hg]
  rw [evalA_eq] at h
  generalize stepA P (altOf pol o.dst) o (evalF (look F)) M = r at h ⊢
  cases r with
  | val v M' => exact fin v M' h
  | call g args =>
    obtain ⟨R, c1, c2⟩ := h
    exact ⟨R, c1, fun v M' hr => fin v M' (c2 v M' hr)⟩
  | bad => exact h.elim

/-- The last operation. -/
theorem DR_last {S : AMem → Prop} {K : Fr → AMem → Prop} {done : List Nat} {F : Fr} {M : AMem} {i : Nat} {o : Oper} (ho : ops[i]? = some o) (ht : soleOk ops done i = true) (hlast : looseOp ops i = true) (hend : Region.ready .any ops (listedOf ops.size (done ++ [i])) = [])
    (hg : guardA (ops.toList.map (·.dst)) o F = some true)
    (h : match stepA P (altOf pol o.dst) o (evalA F) M with
      | .val v M' => K (put o.dst v F) M'
      | .call g args => ∃ R, ACalls P g args M R ∧ ∀ v M', R v M' → K (put o.dst v F) M'
      | .bad => False) : DR P pol ops S K done F M := by
  intro hS
  simp only [soleOk, Bool.and_eq_true, decide_eq_true_eq] at ht
  obtain ⟨h1, h2⟩ := ht
  have e : ops.size - done.length = (ops.size - (done.length + 1)) + 1 := by omega
  rw [e]
  refine ⟨fun h0 => (by rw [h2] at h0; cases h0), fun j hj => ?_⟩
  rw [h2] at hj
  obtain rfl : j = i := by simpa using hj
  rw [listedOf_snoc] at hend
  have fin : ∀ v M', K (put o.dst v F) M' → (S M' ∨ looseOp ops j = true) ∧ AAny P pol ops S (fun f M => ∃ F, look F = f ∧ K F M) (ops.size - (done.length + 1)) ((listedOf ops.size done).setIfInBounds j true) (fput o.dst v (look F)) M' := by
    intro v M' hh
    refine ⟨.inr hlast, ?_⟩
    cases ops.size - (done.length + 1) with
    | zero => exact ⟨hend, _, look_put _ _ _, hh⟩
    | succ n => exact ⟨fun _ => ⟨_, look_put _ _ _, hh⟩, by rw [hend]; simp⟩
  unfold AStep
  simp only [ho]
  rw [guardA_eq] at hg
  simp only [hg]
  rw [evalA_eq] at h
  generalize stepA P (altOf pol o.dst) o (evalF (look F)) M = r at h ⊢
  cases r with
  | val v M' => exact fin v M' h
  | call g args =>
    obtain ⟨R, c1, c2⟩ := h
    exact ⟨R, c1, fun v M' hr => fin v M' (c2 v M' hr)⟩
  | bad => exact h.elim

/-! ### Behind the last that reads: S need not hold any more -/
def DRN (P : Program) (pol : List Nat) (ops : Array Oper) (S : AMem → Prop) (K : Fr → AMem → Prop) (done : List Nat) (F : Fr) (M : AMem) : Prop :=
  AAny P pol ops S (fun f M => ∃ F, look F = f ∧ K F M) (ops.size - done.length) (listedOf ops.size done) (look F) M

theorem DRN_sole {S : AMem → Prop} {K : Fr → AMem → Prop} {done : List Nat} {F : Fr} {M : AMem} (i : Nat) (ht : soleOk ops done i = true) (hlast : looseOp ops i = true)
    (hg : (match ops[i]? with | some o => guardA (ops.toList.map (·.dst)) o F | none => none) = some true)
    (h : match ops[i]? with
      | some o => (match stepA P (altOf pol o.dst) o (evalA F) M with
        | .val v M' => DRN P pol ops S K (done ++ [i]) (put o.dst v F) M'
        | .call g args => ∃ R, ACalls P g args M R ∧ ∀ v M', R v M' → DRN P pol ops S K (done ++ [i]) (put o.dst v F) M'
        | .bad => False)
      | none => False) : DRN P pol ops S K done F M := by
  cases ho : ops[i]? with
  | none => rw [ho] at h; exact h.elim
  | some o =>
  rw [ho] at h hg
  unfold DRN
  simp only [soleOk, Bool.and_eq_true, decide_eq_true_eq] at ht
  obtain ⟨h1, h2⟩ := ht
  have e : ops.size - done.length = (ops.size - (done.length + 1)) + 1 := by omega
  rw [e]
  refine ⟨fun h0 => (by rw [h2] at h0; cases h0), fun j hj => ?_⟩
  rw [h2] at hj
  obtain rfl : j = i := by simpa using hj
  have fin : ∀ v M', DRN P pol ops S K (done ++ [j]) (put o.dst v F) M' → (S M' ∨ looseOp ops j = true) ∧ AAny P pol ops S (fun f M => ∃ F, look F = f ∧ K F M) (ops.size - (done.length + 1)) ((listedOf ops.size done).setIfInBounds j true) (fput o.dst v (look F)) M' := by
    intro v M' hh
    unfold DRN at hh
    rw [listedOf_snoc, look_put, List.length_append, List.length_singleton] at hh
    exact ⟨.inr hlast, hh⟩
  unfold AStep
  simp only [ho]
  simp only [guardA_eq] at hg
  simp only [hg]
  simp only [evalA_eq] at h
  generalize stepA P (altOf pol o.dst) o (evalF (look F)) M = r at h ⊢
  cases r with
  | val v M' => exact fin v M' h
  | call g args =>
    obtain ⟨R, c1, c2⟩ := h
    exact ⟨R, c1, fun v M' hr => fin v M' (c2 v M' hr)⟩
  | bad => exact h.elim

theorem DR_break {S : AMem → Prop} {K : Fr → AMem → Prop} {done : List Nat} {F : Fr} {M : AMem} (i : Nat) (ht : soleOk ops done i = true) (hlast : looseOp ops i = true)
    (hg : (match ops[i]? with | some o => guardA (ops.toList.map (·.dst)) o F | none => none) = some true)
    (h : match ops[i]? with
      | some o => (match stepA P (altOf pol o.dst) o (evalA F) M with
        | .val v M' => DRN P pol ops S K (done ++ [i]) (put o.dst v F) M'
        | .call g args => ∃ R, ACalls P g args M R ∧ ∀ v M', R v M' → DRN P pol ops S K (done ++ [i]) (put o.dst v F) M'
        | .bad => False)
      | none => False) : DR P pol ops S K done F M := fun _ => DRN_sole i ht hlast hg h

theorem DRN_end {S : AMem → Prop} {K : Fr → AMem → Prop} {done : List Nat} {F : Fr} {M : AMem} (hr : Region.ready .any ops (listedOf ops.size done) = []) (h : K F M) : DRN P pol ops S K done F M := by
  unfold DRN
  cases ops.size - done.length with
  | zero => exact ⟨hr, F, rfl, h⟩
  | succ n => exact ⟨fun _ => ⟨F, rfl, h⟩, by rw [hr]; simp⟩

theorem DRN_still {S : AMem → Prop} {K : Fr → AMem → Prop} {done : List Nat} {F : Fr} {M : AMem} (i : Nat) (ht : takeOk ops done i = true)
    (hs : (match ops[i]? with | some o => stillOp o.op && quietOp o.op | none => false) = true)
    (hg : (match ops[i]? with | some o => guardA (ops.toList.map (·.dst)) o F | none => none) = some true)
    (h : match ops[i]? with
      | some o => (match stepA P (altOf pol o.dst) o (evalA F) M with
        | .val v _ => DRN P pol ops S K (done ++ [i]) (put o.dst v F) M
        | _ => False)
      | none => False) : DRN P pol ops S K done F M := by
  cases ho : ops[i]? with
  | none => rw [ho] at h; exact h.elim
  | some o =>
  rw [ho] at h hg hs
  simp only [Bool.and_eq_true] at hs
  simp only at h hg
  unfold DRN
  simp only [takeOk, Bool.and_eq_true, decide_eq_true_eq] at ht
  obtain ⟨⟨⟨h1, h2⟩, h3⟩, h4⟩ := ht
  cases hr : stepA P (altOf pol o.dst) o (evalA F) M with
  | val v M' =>
    rw [hr] at h
    simp only at h
    unfold DRN at h
    rw [listedOf_snoc, look_put, List.length_append, List.length_singleton] at h
    have e : ops.size - done.length = (ops.size - (done.length + 1)) + 1 := by omega
    rw [e]
    rw [guardA_eq] at hg
    rw [evalA_eq] at hr
    exact aany_first0 (S' := fun _ => True) ho hs.2 (fun _ _ => trivial) (fun _ _ => trivial) _ _ _ M (closedB_spec h4) (Region.free_spec ho h2) (by simpa using h3) (.inl ⟨hg, fun M2 _ => (still_step hs.1 hr M2).1⟩) trivial (.inr (by simp [looseOp, ho, hs.1])) h
  | _ => rw [hr] at h; exact h.elim

/-- Operations that only read, one behind the other. -/
def runQ (P : Program) (pol : List Nat) (dsts : List (Option Nat)) : List Oper → Fr → AMem → Option Fr
  | [], F, _ => some F
  | o :: r, F, M => match guardA dsts o F with
    | some true => match stepA P (altOf pol o.dst) o (evalA F) M with
      | .val v _ => runQ P pol dsts r (put o.dst v F) M
      | _ => none
    | some false => runQ P pol dsts r (put o.dst (.prim undef) F) M
    | none => none

theorem quiet_same {alt : Bool} {o : Oper} (hq : quietOp o.op = true) {ρ : Operand → V} {M M' : AMem} {v : V} (h : stepA P alt o ρ M = .val v M') : M' = M := by
  have ofV_same : ∀ {r : Option V} {v : V} {M' : AMem}, ofV M r = .val v M' → M' = M := by
    intro r v M' h
    cases r with
    | none => cases h
    | some z => simp only [ofV] at h; injection h with _ h; exact h.symm
  unfold stepA at h
  cases ho : o.op with
  | call c =>
    rw [ho] at h hq
    obtain ⟨callee, args, argTypes⟩ := c
    cases callee with
    | builtin b =>
      cases b <;> simp [quietOp] at hq
      · simp only [callA] at h
        split at h
        · exact ofV_same h
        · cases h
      · simp only [callA] at h
        split at h
        · split at h
          · injection h with _ h; exact h.symm
          · cases h
        · cases h
    | _ => simp [quietOp] at hq
  | box => rw [ho] at hq; simp [quietOp] at hq
  | _ =>
    rw [ho] at h
    first
      | (rw [ho] at hq; simp [quietOp] at hq; done)
      | (simp only at h; first
          | exact ofV_same h
          | (injection h with _ h; exact h.symm)
          | (split at h <;> first | (injection h with _ h; exact h.symm) | cases h)
          | (split at h <;> first | (split at h <;> first | exact ofV_same h | cases h) | cases h))

/-- A block of operations that only read, each free to be taken when its turn comes. -/
def blockOk (ops : Array Oper) : List Nat → List Nat → Bool
  | _, [] => true
  | done, i :: r => takeOk ops done i && (match ops[i]? with | some o => quietOp o.op && o.dst.isSome | none => false) && blockOk ops (done ++ [i]) r

def opsAt (ops : Array Oper) : List Nat → List Oper
  | [] => []
  | i :: r => match ops[i]? with
    | some o => o :: opsAt ops r
    | none => opsAt ops r

theorem runQ_len {dsts : List (Option Nat)} {M : AMem} : ∀ {l : List Oper} {F F' : Fr}, runQ P pol dsts l F M = some F' → ∃ L, F' = L ++ F ∧ L.length = (l.filter fun o => o.dst.isSome).length
  | [], F, F', h => by
    simp [runQ] at h
    exact ⟨[], by simp [h]⟩
  | o :: l, F, F', h => by
    have go : ∀ v, runQ P pol dsts l (put o.dst v F) M = some F' → ∃ L, F' = L ++ F ∧ L.length = ((o :: l).filter fun o => o.dst.isSome).length := by
      intro v hv
      obtain ⟨L, h1, h2⟩ := runQ_len hv
      cases hd : o.dst with
      | none =>
        rw [hd] at h1
        exact ⟨L, h1, by simp [List.filter_cons, hd, h2]⟩
      | some d =>
        rw [hd] at h1
        exact ⟨L ++ [(d, v)], by rw [h1]; simp [put], by simp [List.filter_cons, hd, h2]⟩
    simp only [runQ] at h
    split at h
    · split at h
      · exact go _ h
      · cases h
    · exact go _ h
    · cases h

theorem opsAt_cons {i : Nat} {r : List Nat} {o : Oper} (h : ops[i]? = some o) : opsAt ops (i :: r) = o :: opsAt ops r := by
  simp [opsAt, h]

/-- A block of operations that only read: what they give is the same in whatever memory S allows. -/
theorem DR_block {S : AMem → Prop} {K : Fr → AMem → Prop} {M : AMem} : ∀ (is done : List Nat) (F F' : Fr), blockOk ops done is = true → (∀ M, S M → runQ P pol (ops.toList.map (·.dst)) (opsAt ops is) F M = some F') →
    DR P pol ops S K (done ++ is) F' M → DR P pol ops S K done F M
  | [], done, F, F', _, hq, h => by
    intro hS
    have := hq M hS
    simp [opsAt, runQ] at this
    subst this
    rw [List.append_nil] at h
    exact h hS
  | i :: is, done, F, F', hb, hq, h => by
    intro hS
    simp only [blockOk, Bool.and_eq_true] at hb
    obtain ⟨⟨b1, b2⟩, b3⟩ := hb
    cases ho : ops[i]? with
    | none => rw [ho] at b2; cases b2
    | some o =>
      rw [ho] at b2
      simp only [Bool.and_eq_true] at b2
      rw [opsAt_cons ho] at hq
      have h0 := hq M hS
      have hquiet : ∃ v, QuietA P pol ops S o (look F) v ∧ ∀ M, S M → runQ P pol (ops.toList.map (·.dst)) (opsAt ops is) (put o.dst v F) M = some F' := by
        simp only [runQ] at h0 hq
        rw [guardA_eq] at h0
        generalize hg : guardF (ops.toList.map (·.dst)) o (look F) = g at h0
        rcases g with _ | _ | _
        · cases h0
        · refine ⟨.prim undef, .inr ⟨hg, rfl⟩, fun M hM => ?_⟩
          have := hq M hM
          rw [guardA_eq, hg] at this
          exact this
        · simp only at h0
          have val : ∀ M, S M → ∃ v, stepA P (altOf pol o.dst) o (evalF (look F)) M = .val v M ∧ runQ P pol (ops.toList.map (·.dst)) (opsAt ops is) (put o.dst v F) M = some F' := by
            intro M hM
            have h1 := hq M hM
            rw [guardA_eq, hg, evalA_eq] at h1
            simp only at h1
            split at h1
            · rename_i v M' hs
              obtain rfl := quiet_same b2.1 hs
              exact ⟨v, hs, h1⟩
            · cases h1
          obtain ⟨v, v1, v2⟩ := val M hS
          have same : ∀ M' v', runQ P pol (ops.toList.map (·.dst)) (opsAt ops is) (put o.dst v' F) M' = some F' → v' = v := by
            intro M' v' h1
            obtain ⟨L, e1, e2⟩ := runQ_len v2
            obtain ⟨L', e3, e4⟩ := runQ_len h1
            obtain ⟨d, hd⟩ := Option.isSome_iff_exists.1 b2.2
            rw [hd] at e1 e3
            rw [e1] at e3
            have := (List.append_inj e3 (by rw [e2, e4])).2
            simp only [put] at this
            injection this with this _
            injection this with _ this
            exact this.symm
          refine ⟨v, .inl ⟨hg, fun M' hM' => ?_⟩, fun M' hM' => ?_⟩
          · obtain ⟨v', w1, w2⟩ := val M' hM'
            rw [same M' v' w2] at w1
            exact w1
          · obtain ⟨v', w1, w2⟩ := val M' hM'
            rw [same M' v' w2] at w2
            exact w2
      obtain ⟨v, q1, q2⟩ := hquiet
      refine DR_take ho b2.1 b1 q1 (DR_block is (done ++ [i]) _ F' b3 q2 ?_) hS
      rw [List.append_assoc]
      exact h


def QK (r : Option Fr) (K : Fr → Prop) : Prop :=
  match r with
  | some F => K F
  | none => False

theorem DR_quiet {S : AMem → Prop} {K : Fr → AMem → Prop} {M : AMem} {F : Fr} {done : List Nat} (is : List Nat) (hb : blockOk ops done is = true)
    (h1 : ∀ M', S M' → runQ P pol (ops.toList.map (·.dst)) (opsAt ops is) F M' = runQ P pol (ops.toList.map (·.dst)) (opsAt ops is) F M)
    (h2 : ∀ K2 : Fr → Prop, (∀ F', DR P pol ops S K (done ++ is) F' M → K2 F') → QK (runQ P pol (ops.toList.map (·.dst)) (opsAt ops is) F M) K2) : DR P pol ops S K done F M := by
  have h3 := h2 _ (fun _ h => h)
  cases hr : runQ P pol (ops.toList.map (·.dst)) (opsAt ops is) F M with
  | none => rw [hr] at h3; exact h3.elim
  | some F' =>
    rw [hr] at h3 h1
    exact DR_block is done F F' hb h1 h3

theorem DR_sole' {S : AMem → Prop} {K : Fr → AMem → Prop} {done : List Nat} {F : Fr} {M : AMem} (i : Nat) (ht : soleOk ops done i = true)
    (hg : (match ops[i]? with | some o => guardA (ops.toList.map (·.dst)) o F | none => none) = some true)
    (h : match ops[i]? with
      | some o => (match stepA P (altOf pol o.dst) o (evalA F) M with
        | .val v M' => S M' ∧ DR P pol ops S K (done ++ [i]) (put o.dst v F) M'
        | .call g args => ∃ R, ACalls P g args M R ∧ ∀ v M', R v M' → S M' ∧ DR P pol ops S K (done ++ [i]) (put o.dst v F) M'
        | .bad => False)
      | none => False) : DR P pol ops S K done F M := by
  cases ho : ops[i]? with
  | none => rw [ho] at h; exact h.elim
  | some o => rw [ho] at h hg; exact DR_sole ho ht hg h

theorem DR_last' {S : AMem → Prop} {K : Fr → AMem → Prop} {done : List Nat} {F : Fr} {M : AMem} (i : Nat) (ht : soleOk ops done i = true) (hlast : looseOp ops i = true) (hend : Region.ready .any ops (listedOf ops.size (done ++ [i])) = [])
    (hg : (match ops[i]? with | some o => guardA (ops.toList.map (·.dst)) o F | none => none) = some true)
    (h : match ops[i]? with
      | some o => (match stepA P (altOf pol o.dst) o (evalA F) M with
        | .val v M' => K (put o.dst v F) M'
        | .call g args => ∃ R, ACalls P g args M R ∧ ∀ v M', R v M' → K (put o.dst v F) M'
        | .bad => False)
      | none => False) : DR P pol ops S K done F M := by
  cases ho : ops[i]? with
  | none => rw [ho] at h; exact h.elim
  | some o => rw [ho] at h hg; exact DR_last ho ht hlast hend hg h

/-- A region whose order is open. -/
theorem W_draw {Ret : Fr → AMem → Prop} {k : List It} {F : Fr} {M : AMem} (pol : List Nat) (S : AMem → Prop) {id : Nat} (hm : P.follows .mixedOrders = true) (hN : (ops.toList.map (·.dst)).all (dstOk N) = true) (hS : S M)
    (h : ∀ K : Fr → AMem → Prop, (∀ F M, W P N Ret k F M → K F M) → DR P pol ops S K [] F M) : W P N Ret (.code (.region id ops true) :: k) F M := by
  intro G a w hR hF
  refine wp_region_any hm ?_
  have hN' := dsts_lt hN
  have h0 := h (W P N Ret k) (fun _ _ h => h) hS
  refine aany_sound hN' (G0 := G) ?_ ops.size _ (look F) M h0 G a w.drew (.refl G) hR.drew ⟨hF.defers, hF.size, hF.vals⟩
  rintro G' f M' a' w' hG hR' hF' ⟨F', rfl, hW⟩
  exact ⟨G', F', M', hG, hR', ⟨hF'.defers, hF'.size, hF'.vals⟩, hW⟩

/-- A region whose order is open, of operations that only read. -/
theorem W_read {Ret : Fr → AMem → Prop} {k : List It} {F : Fr} {M : AMem} (pol : List Nat) {id : Nat} (hm : P.follows .mixedOrders = true) (hN : (ops.toList.map (·.dst)).all (dstOk N) = true)
    (hb : blockOk ops [] (List.range ops.size) = true) (he : Region.ready .any ops (listedOf ops.size (List.range ops.size)) = [])
    (h : ∀ K2 : Fr → Prop, (∀ F', W P N Ret k F' M → K2 F') → QK (runQ P pol (ops.toList.map (·.dst)) (opsAt ops (List.range ops.size)) F M) K2) : W P N Ret (.code (.region id ops true) :: k) F M := by
  refine W_draw pol (fun M' => M' = M) hm hN rfl fun K hK => ?_
  refine DR_quiet (List.range ops.size) hb (fun M' hM => by rw [hM]) fun K2 hK2 => ?_
  exact h K2 fun F' hW => hK2 F' (DR_end (by rw [List.nil_append]; exact he) (hK F' M hW))

end
end Go.Ax

/- A type's variables as they first come; it with 0, 1, .. for them. Conditions: none. -/
import Derived.Test.YtfpmohmhiecjfaaDoorUnQ
set_option linter.unusedVariables false
set_option linter.unusedSimpArgs false
namespace Go.Ax
open Go.Uni

def addV (acc : List Nat) (v : Nat) : List Nat := if v ∈ acc then acc else acc ++ [v]
mutual
def varsF (acc : List Nat) : Ty → List Nat
  | .var v => addV acc v
  | .app _ l => varsFL acc l
def varsFL (acc : List Nat) : List Ty → List Nat
  | [] => acc
  | x :: l => varsFL (varsF acc x) l
end
theorem varsFL_snoc (acc : List Nat) (l : List Ty) (x : Ty) : varsFL acc (l ++ [x]) = varsF (varsFL acc l) x := by
  induction l generalizing acc with
  | nil => rfl
  | cons y l ih => rw [List.cons_append, varsFL, ih, varsFL]
theorem addV_mem {acc : List Nat} {v w : Nat} : w ∈ addV acc v ↔ w ∈ acc ∨ w = v := by
  unfold addV
  split
  · rename_i h
    constructor
    · exact .inl
    · rintro (h1 | rfl)
      · exact h1
      · exact h
  · simp
theorem addV_nd {acc : List Nat} {v : Nat} (h : acc.Nodup) : (addV acc v).Nodup := by
  unfold addV
  split
  · exact h
  · rename_i hn
    rw [List.nodup_append]
    refine ⟨h, by simp, fun a ha b hb => ?_⟩
    simp at hb; subst hb
    exact fun e => hn (e ▸ ha)
mutual
theorem varsF_mem {acc : List Nat} {w : Nat} : ∀ {t : Ty}, w ∈ varsF acc t ↔ w ∈ acc ∨ w ∈ t.vars
  | .var v => by rw [varsF, addV_mem]; simp [Ty.vars]
  | .app f l => by rw [varsF, Ty.vars]; exact varsFL_mem
theorem varsFL_mem {acc : List Nat} {w : Nat} : ∀ {l : List Ty}, w ∈ varsFL acc l ↔ w ∈ acc ∨ w ∈ Ty.varsL l
  | [] => by simp [varsFL, Ty.varsL]
  | x :: l => by rw [varsFL, varsFL_mem, varsF_mem, Ty.varsL, List.mem_append, or_assoc]
end
mutual
theorem varsF_nd {acc : List Nat} (h : acc.Nodup) : ∀ (t : Ty), (varsF acc t).Nodup
  | .var v => addV_nd h
  | .app f l => varsFL_nd h l
theorem varsFL_nd {acc : List Nat} (h : acc.Nodup) : ∀ (l : List Ty), (varsFL acc l).Nodup
  | [] => h
  | x :: l => by rw [varsFL]; exact varsFL_nd (varsF_nd h x) l
end
def VOk (acc : List Nat) : Prop := acc.Nodup ∧ ∀ x ∈ acc, x < 1000
theorem VOk.len {acc : List Nat} (h : VOk acc) : acc.length ≤ 1000 := nodup_le 1000 acc h.1 h.2
theorem VOk.nil : VOk [] := ⟨by simp, by simp⟩
theorem VOk.vars {acc : List Nat} (h : VOk acc) {t : Ty} (ht : VB t) : VOk (varsF acc t) := ⟨varsF_nd h.1 t, fun x hx => by
  rcases varsF_mem.1 hx with h1 | h1
  · exact h.2 x h1
  · exact ht x h1⟩
theorem VOk.varsL {acc : List Nat} (h : VOk acc) {l : List Ty} (ht : ∀ x ∈ l, VB x) : VOk (varsFL acc l) := ⟨varsFL_nd h.1 l, fun x hx => by
  rcases varsFL_mem.1 hx with h1 | h1
  · exact h.2 x h1
  · obtain ⟨y, hy, h2⟩ := Ty.mem_varsL.1 h1
    exact ht y hy x h2⟩

/-- With 0, 1, .. for the variables of this list. -/
def ren (l : List Nat) : Nat → Ty := fun v => .var (l.idxOf v)
def canon (t : Ty) : Ty := t.sub (ren (varsF [] t))
theorem canon_Ar {t : Ty} (h : Ar t) : Ar (canon t) := Ar_sub (m := ren (varsF [] t)) (fun _ => trivial) h
theorem vars_len {t : Ty} (h : VB t) : (varsF [] t).length ≤ 1000 := (VOk.nil.vars h).len
theorem canon_VB {t : Ty} (h : VB t) : VB (canon t) := fun v hv => by
  obtain ⟨w, h1, h2⟩ := Ty.mem_vars_sub.1 hv
  simp [ren, Ty.vars] at h2
  subst h2
  have h3 : w ∈ varsF [] t := varsF_mem.2 (.inr h1)
  have := List.idxOf_lt_length_of_mem h3
  have := vars_len h
  omega
mutual
/-- Names of few bytes alone. -/
def SN : Ty → Prop
  | .var n => True
  | .app f l => f.size ≤ 10 ∧ SNL l
def SNL : List Ty → Prop
  | [] => True
  | x :: l => SN x ∧ SNL l
end
mutual
theorem SN_sub {m : Nat → Ty} (hm : ∀ v, SN (m v)) : ∀ {t : Ty}, SN t → SN (t.sub m)
  | .var n, _ => hm n
  | .app f l, h => by rw [Ty.sub, SN]; rw [SN] at h; exact ⟨h.1, SNL_sub hm h.2⟩
theorem SNL_sub {m : Nat → Ty} (hm : ∀ v, SN (m v)) : ∀ {l : List Ty}, SNL l → SNL (Ty.subL m l)
  | [], _ => trivial
  | x :: l, h => ⟨SN_sub hm h.1, SNL_sub hm h.2⟩
end
theorem SNL_iff : ∀ {l : List Ty}, SNL l ↔ ∀ x ∈ l, SN x
  | [] => by simp [SNL]
  | x :: l => by simp [SNL, SNL_iff (l := l)]
theorem canon_SN {t : Ty} (h : SN t) : SN (canon t) := SN_sub (m := ren (varsF [] t)) (fun _ => trivial) h
mutual
theorem canon_size' (l : List Nat) : ∀ t : Ty, (t.sub (ren l)).size = t.size
  | .var n => rfl
  | .app f k => by rw [Ty.sub, Ty.size, Ty.size, canon_sizeL' l k]
theorem canon_sizeL' (l : List Nat) : ∀ k : List Ty, Ty.sizeL (Ty.subL (ren l) k) = Ty.sizeL k
  | [] => rfl
  | x :: k => by rw [Ty.subL, Ty.sizeL, Ty.sizeL, canon_size' l x, canon_sizeL' l k]
end
theorem canon_size (t : Ty) : (canon t).size = t.size := canon_size' _ t

/-- Behind the first steps of the reference. -/
def ren1 (l : List Nat) (i : Nat) : Nat → Ty := fun v => if l.idxOf v < i then .var (1099511627776 + l.idxOf v) else .var v
def ren2 (l : List Nat) (i : Nat) : Nat → Ty := fun v => if l.idxOf v < i then .var (l.idxOf v) else .var (1099511627776 + l.idxOf v)
theorem ren1_zero (l : List Nat) (t : Ty) : t.sub (ren1 l 0) = t := by
  have : ren1 l 0 = Ty.var := by funext v; simp [ren1]
  rw [this, Ty.sub_var]
theorem idx_at {l : List Nat} (hn : l.Nodup) {i n : Nat} (h : l[i]? = some n) (v : Nat) (hv : v ∈ l) : l.idxOf v = i ↔ v = n := by
  obtain ⟨hi, rfl⟩ := List.getElem?_eq_some_iff.1 h
  constructor
  · rintro rfl
    exact (List.getElem_idxOf (List.idxOf_lt_length_of_mem hv)).symm
  · rintro rfl
    exact List.Nodup.idxOf_getElem hn i hi
theorem ren1_step {l : List Nat} (h : VOk l) {i n : Nat} (hi : l[i]? = some n) {t : Ty} (ht : ∀ v ∈ t.vars, v ∈ l) : (t.sub (ren1 l i)).put n (.var (1099511627776 + i)) = t.sub (ren1 l (i + 1)) := by
  rw [Ty.put, Ty.sub_sub]
  refine Ty.sub_congr fun v hv => ?_
  have h1 := idx_at h.1 hi v (ht v hv)
  have h2 := h.2 n (List.mem_of_getElem? hi)
  unfold ren1
  by_cases e : l.idxOf v < i
  · rw [if_pos e, if_pos (by omega), Ty.sub, one, if_neg (by omega)]
  · rw [if_neg e, Ty.sub, one]
    by_cases e2 : v = n
    · rw [if_pos e2, if_pos (by have := h1.2 e2; omega), h1.2 e2]
    · have : ¬ l.idxOf v = i := fun e3 => e2 (h1.1 e3)
      rw [if_neg e2, if_neg (by omega)]
theorem ren2_step {l : List Nat} (h : VOk l) {i : Nat} (hi : i < l.length) {t : Ty} : (t.sub (ren2 l i)).put (1099511627776 + i) (.var i) = t.sub (ren2 l (i + 1)) := by
  rw [Ty.put, Ty.sub_sub]
  refine Ty.sub_congr fun v hv => ?_
  have h2 := h.len
  unfold ren2
  by_cases e : l.idxOf v < i
  · rw [if_pos e, if_pos (by omega), Ty.sub, one, if_neg (by omega)]
  · rw [if_neg e, Ty.sub, one]
    by_cases e2 : l.idxOf v = i
    · rw [if_pos (by omega), if_pos (by omega), e2]
    · rw [if_neg (by omega), if_neg (by omega)]
theorem ren12 {l : List Nat} {t : Ty} (ht : ∀ v ∈ t.vars, v ∈ l) : t.sub (ren1 l l.length) = t.sub (ren2 l 0) := by
  refine Ty.sub_congr fun v hv => ?_
  have := List.idxOf_lt_length_of_mem (ht v hv)
  unfold ren1 ren2
  rw [if_pos this, if_neg (by omega)]
theorem ren2_end {l : List Nat} {t : Ty} (ht : ∀ v ∈ t.vars, v ∈ l) : t.sub (ren2 l l.length) = t.sub (ren l) := by
  refine Ty.sub_congr fun v hv => ?_
  have := List.idxOf_lt_length_of_mem (ht v hv)
  unfold ren2 ren
  rw [if_pos this]
end Go.Ax

/- The type of nodes, as plain law. Conditions: none. -/
set_option linter.unusedVariables false
set_option linter.unusedSimpArgs false
namespace Go.Ax
open Go.Uni

structure Nd where
  v : Int
  n : Nat
  a : Nat
def Nd.ok (x : Nd) : Prop := -128 ≤ x.v ∧ x.v < 128 ∧ x.n < 256 ∧ x.a < 256
def encN (x : Nd) : V := .agg [.prim (.int .i8 x.v), .prim (.int .u8 (x.n : Int)), .prim (.int .u8 (x.a : Int))]
def nmF (n : Nat) : ByteArray := if n % 4 = 0 then ⟨#[73, 110, 116]⟩ else if n % 4 = 1 then ⟨#[76, 105, 115, 116]⟩ else if n % 4 = 2 then ⟨#[45, 62]⟩ else ⟨#[80, 97, 105, 114]⟩

def argsG (g : List Nd → Ty × Nat) (l : List Nd) : Nat → List Ty × Nat
  | 0 => ([], 1)
  | i + 1 => ((argsG g l i).1 ++ [(g (l.drop (min (argsG g l i).2 l.length))).1], (argsG g l i).2 + (g (l.drop (min (argsG g l i).2 l.length))).2)
def typF : Nat → List Nd → Ty × Nat
  | 0, _ => (.var 0, 0)
  | d + 1, [] => (.var 0, 0)
  | d + 1, x :: l => if 0 ≤ x.v then (.var (x.v.toNat % 6), 1) else
      (.app (nmF x.n) (argsG (typF d) (x :: l) (x.a % 3)).1, min (argsG (typF d) (x :: l) (x.a % 3)).2 (l.length + 1))

theorem sizeL_app' (l k : List Ty) : Ty.sizeL (l ++ k) = Ty.sizeL l + Ty.sizeL k := by
  induction l with
  | nil => simp [Ty.sizeL]
  | cons x l ih => rw [List.cons_append, Ty.sizeL, Ty.sizeL, ih]; omega

/-- What is so of a type of nodes. -/
structure TypOk (t : Ty) (n len : Nat) : Prop where
  le : n ≤ len
  size : t.size ≤ 2 * n + 1
  ar : Ar t
  sn : SN t
  lt : ∀ v ∈ t.vars, v < 6
theorem nmF_size (n : Nat) : (nmF n).size ≤ 10 := by
  unfold nmF
  split
  · decide
  split
  · decide
  split
  · decide
  · decide
theorem argsG_ok {g : List Nd → Ty × Nat} (hg : ∀ l, TypOk (g l).1 (g l).2 l.length) (l : List Nd) (hl : 0 < l.length) : ∀ k, k ≤ 2 → (argsG g l k).2 ≤ l.length ∧ 1 ≤ (argsG g l k).2 ∧ Ty.sizeL (argsG g l k).1 + 2 ≤ 2 * (argsG g l k).2 + k ∧ (argsG g l k).1.length = k ∧
    (∀ x ∈ (argsG g l k).1, Ar x ∧ SN x ∧ ∀ v ∈ x.vars, v < 6)
  | 0, _ => by simp [argsG, Ty.sizeL]; omega
  | k + 1, hk => by
    obtain ⟨h1, h2, h3, h4, h5⟩ := argsG_ok hg l hl k (by omega)
    have h6 := hg (l.drop (min (argsG g l k).2 l.length))
    have h7 := h6.le
    have h8 := h6.size
    rw [List.length_drop] at h7
    refine ⟨?_, ?_, ?_, ?_, ?_⟩
    · simp only [argsG]; omega
    · simp only [argsG]; omega
    · simp only [argsG]; rw [sizeL_app', Ty.sizeL, Ty.sizeL]; omega
    · simp only [argsG]; simp [h4]
    · intro x hx
      simp only [argsG] at hx
      rcases List.mem_append.1 hx with hx | hx
      · exact h5 x hx
      · simp at hx; subst hx; exact ⟨h6.ar, h6.sn, h6.lt⟩
theorem typF_ok : ∀ (d : Nat) (l : List Nd), TypOk (typF d l).1 (typF d l).2 l.length
  | 0, l => ⟨by simp [typF], by simp [typF, Ty.size], trivial, trivial, fun v hv => by simp [typF, Ty.vars] at hv; omega⟩
  | d + 1, [] => ⟨by simp [typF], by simp [typF, Ty.size], trivial, trivial, fun v hv => by simp [typF, Ty.vars] at hv; omega⟩
  | d + 1, x :: l => by
    rw [typF]
    split
    · exact ⟨by simp, by simp [Ty.size], trivial, trivial, fun v hv => by simp [Ty.vars] at hv; omega⟩
    · obtain ⟨h1, h2, h3, h4, h5⟩ := argsG_ok (typF_ok d) (x :: l) (by simp) (x.a % 3) (by omega)
      have hm : x.a % 3 ≤ 2 := by omega
      rw [List.length_cons] at h1
      refine ⟨?_, ?_, ?_, ?_, ?_⟩
      · simp only [List.length_cons]; omega
      · simp only [Ty.size]; omega
      · rw [Ar_app]; exact ⟨by omega, fun y hy => (h5 y hy).1⟩
      · rw [SN, SNL_iff]; exact ⟨nmF_size _, fun y hy => (h5 y hy).2.1⟩
      · intro v hv
        obtain ⟨y, hy, hv⟩ := Ty.mem_varsL.1 hv
        exact (h5 y hy).2.2 v hv
end Go.Ax

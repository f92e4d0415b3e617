import Derived.Test.YthbojmoiimknhaaSt0
import Derived.Test.YthbojmoiimknhaaOrM
set_option linter.unusedSimpArgs false
set_option linter.unusedVariables false
namespace Go.Ax
open Go.Proofs Go.Ord

/-- A part of a code: the way to it. -/
def part : List Nat → Code → Code
  | [], c => c
  | 0 :: p, .seq a _ => part p a
  | _ :: p, .seq _ b => part p b
  | 0 :: p, .cond _ a _ => part p a
  | _ :: p, .cond _ _ b => part p b
  | _ :: p, .loop c => part p c
  | _ :: p, .block _ c => part p c
  | _, c => c
noncomputable def body41 : Code := Try.f41.body.getD .skip

def natV (k : Nat) : V := V.int (k : Int)
def cellsN (n : Nat) (f : Nat → Nat) : List V := (List.range n).map fun k => V.int (f k : Int)
def cellsB (n : Nat) (f : Nat → Bool) : List V := (List.range n).map fun k => V.bool (f k)

theorem cellsN_at {n : Nat} (f : Nat → Nat) {k : Nat} (h : k < n) : (cellsN n f)[k]? = some (V.int (f k : Int)) := by simp [cellsN, h]
theorem cellsB_at {n : Nat} (f : Nat → Bool) {k : Nat} (h : k < n) : (cellsB n f)[k]? = some (V.bool (f k)) := by simp [cellsB, h]
theorem cellsN_len (n : Nat) (f : Nat → Nat) : (cellsN n f).length = n := by simp [cellsN]
theorem cellsB_len (n : Nat) (f : Nat → Bool) : (cellsB n f).length = n := by simp [cellsB]
theorem over_at {α : Type} (xs : List α) (i : Nat) (v : α) (h : i < xs.length) (j : Nat) : (xs.take i ++ v :: xs.drop (i + 1))[j]? = if j = i then some v else xs[j]? := by
  rcases Nat.lt_trichotomy j i with hj | hj | hj
  · rw [List.getElem?_append_left (by simp; omega), List.getElem?_take_of_lt hj, if_neg (by omega)]
  · subst hj
    rw [List.getElem?_append_right (by simp; omega)]
    simp [Nat.min_eq_left (Nat.le_of_lt h)]
  · rw [List.getElem?_append_right (by simp; omega), if_neg (by omega)]
    have : (xs.take i).length = i := by simp; omega
    rw [this]
    obtain ⟨m, rfl⟩ : ∃ m, j = i + 1 + m := ⟨j - i - 1, by omega⟩
    rw [show i + 1 + m - i = m + 1 by omega, List.getElem?_cons_succ, List.getElem?_drop]
theorem overN {n : Nat} (f : Nat → Nat) {i : Nat} (h : i < n) (v : Nat) : (cellsN n f).take i ++ V.int (v : Int) :: (cellsN n f).drop (i + 1) = cellsN n (upd f i v) := by
  apply List.ext_getElem?
  intro j
  rw [over_at _ _ _ (by rw [cellsN_len]; exact h)]
  by_cases hj : j = i
  · subst hj; rw [if_pos rfl, cellsN_at _ h, upd_same]
  · rw [if_neg hj]
    simp only [cellsN, List.getElem?_map, upd, hj]
    by_cases hn : j < n
    · simp [hn, hj]
    · simp [hn]
theorem overB {n : Nat} (f : Nat → Bool) {i : Nat} (h : i < n) (v : Bool) : (cellsB n f).take i ++ V.bool v :: (cellsB n f).drop (i + 1) = cellsB n (upd f i v) := by
  apply List.ext_getElem?
  intro j
  rw [over_at _ _ _ (by rw [cellsB_len]; exact h)]
  by_cases hj : j = i
  · subst hj; rw [if_pos rfl, cellsB_at _ h, upd_same]
  · rw [if_neg hj]
    simp only [cellsB, List.getElem?_map, upd, hj]
    by_cases hn : j < n
    · simp [hn, hj]
    · simp [hn]

/-- The objects of a visit. -/
structure Ids where
  v : Nat
  lo : Nat
  nu : Nat
  on : Nat
  gr : Nat

structure Ids.ok (d : Ids) (B : Nat) : Prop where
  a1 : d.v ≠ d.lo
  a2 : d.v ≠ d.nu
  a3 : d.v ≠ d.on
  a4 : d.v ≠ d.gr
  b1 : d.lo ≠ d.nu
  b2 : d.lo ≠ d.on
  b3 : d.lo ≠ d.gr
  c1 : d.nu ≠ d.on
  c2 : d.nu ≠ d.gr
  d1 : d.on ≠ d.gr
  l1 : B ≤ d.v
  l2 : B ≤ d.lo
  l3 : B ≤ d.nu
  l4 : B ≤ d.on
  l5 : B ≤ d.gr

/-- The state of a visit in memory; all below B is as it was. -/
structure VisAt (M0 : AMem) (B n : Nat) (x : V) (d : Ids) (s : TS) (sk : Option Nat) (M : AMem) : Prop where
  v : M[d.v]? = some (.cells [x, .arr d.lo 0 n 1, .arr d.nu 0 n 1, .arr d.on 0 n 1, wordsV sk s.stk.length, V.int s.next, .arr d.gr 0 n 1, V.int s.groups])
  lo : M[d.lo]? = some (.cells (cellsN n s.low))
  nu : M[d.nu]? = some (.cells (cellsN n s.num))
  on : M[d.on]? = some (.cells (cellsB n s.on))
  gr : M[d.gr]? = some (.cells (cellsN n s.grp))
  sN : sk = none → s.stk = []
  sS : ∀ k, sk = some k → (k ≠ d.v ∧ k ≠ d.lo ∧ k ≠ d.nu ∧ k ≠ d.on ∧ k ≠ d.gr ∧ B ≤ k) ∧ ∃ cs, M[k]? = some (.cells cs) ∧ cs.take s.stk.length = s.stk.map fun j : Nat => V.int (j : Int)
  ids : d.ok B
  keep : ∀ j, j < B → M[j]? = M0[j]?

/-- What all hang on, as it is handed over. -/
structure ToAt (M0 : AMem) (B : Nat) (x : V) (to : List (List Nat)) (rs : List V) : Prop where
  len : rs.length = to.length
  rows : ∀ (i : Nat) (l : List Nat), to[i]? = some l → ∃ tg : Tag, rs[i]? = some (V.list tg (l.map fun k : Nat => V.int (k : Int)))
  x : (∃ tg : Tag, x = .list tg rs) ∨ ∃ j, j < B ∧ x = .arr j 0 to.length 1 ∧ M0[j]? = some (.cells rs)

theorem ToAt.one {M0 : AMem} {B : Nat} {x : V} {to : List (List Nat)} {rs : List V} (h : ToAt M0 B x to rs) : x.one = true ∧ x.cells = [x] ∧ x.okv = true := by
  rcases h.x with ⟨tg, rfl⟩ | ⟨j, _, rfl, _⟩
  · exact ⟨rfl, rfl, rfl⟩
  · exact ⟨rfl, rfl, rfl⟩

section
variable {M0 M : AMem} {B n : Nat} {x : V} {d : Ids} {s : TS} {sk : Option Nat}

theorem lt_of_at {M : AMem} {i : Nat} {o : AObj} (h : M[i]? = some o) : i < M.length := (List.getElem?_eq_some_iff.1 h).1

theorem VisAt.setV (h : VisAt M0 B n x d s sk M) (nx gs : Nat) : VisAt M0 B n x d { s with next := nx, groups := gs } sk (M.set d.v (.cells [x, .arr d.lo 0 n 1, .arr d.nu 0 n 1, .arr d.on 0 n 1, wordsV sk s.stk.length, V.int nx, .arr d.gr 0 n 1, V.int gs])) := by
  have i := h.ids
  refine ⟨List.getElem?_set_self (lt_of_at h.v), ?_, ?_, ?_, ?_, h.sN, fun k e => ⟨(h.sS k e).1, ?_⟩, i, fun j hj => ?_⟩
  · rw [List.getElem?_set_ne i.a1]; exact h.lo
  · rw [List.getElem?_set_ne i.a2]; exact h.nu
  · rw [List.getElem?_set_ne i.a3]; exact h.on
  · rw [List.getElem?_set_ne i.a4]; exact h.gr
  · obtain ⟨h1, cs, h2, h3⟩ := h.sS k e
    exact ⟨cs, by rw [List.getElem?_set_ne (Ne.symm h1.1)]; exact h2, h3⟩
  · rw [List.getElem?_set_ne (by have := i.l1; omega)]; exact h.keep j hj

theorem VisAt.setLo (h : VisAt M0 B n x d s sk M) (f : Nat → Nat) : VisAt M0 B n x d { s with low := f } sk (M.set d.lo (.cells (cellsN n f))) := by
  have i := h.ids
  refine ⟨?_, List.getElem?_set_self (lt_of_at h.lo), ?_, ?_, ?_, h.sN, fun k e => ⟨(h.sS k e).1, ?_⟩, i, fun j hj => ?_⟩
  · rw [List.getElem?_set_ne i.a1.symm]; exact h.v
  · rw [List.getElem?_set_ne i.b1]; exact h.nu
  · rw [List.getElem?_set_ne i.b2]; exact h.on
  · rw [List.getElem?_set_ne i.b3]; exact h.gr
  · obtain ⟨h1, cs, h2, h3⟩ := h.sS k e
    exact ⟨cs, by rw [List.getElem?_set_ne (Ne.symm h1.2.1)]; exact h2, h3⟩
  · rw [List.getElem?_set_ne (by have := i.l2; omega)]; exact h.keep j hj

theorem VisAt.setNu (h : VisAt M0 B n x d s sk M) (f : Nat → Nat) : VisAt M0 B n x d { s with num := f } sk (M.set d.nu (.cells (cellsN n f))) := by
  have i := h.ids
  refine ⟨?_, ?_, List.getElem?_set_self (lt_of_at h.nu), ?_, ?_, h.sN, fun k e => ⟨(h.sS k e).1, ?_⟩, i, fun j hj => ?_⟩
  · rw [List.getElem?_set_ne i.a2.symm]; exact h.v
  · rw [List.getElem?_set_ne i.b1.symm]; exact h.lo
  · rw [List.getElem?_set_ne i.c1]; exact h.on
  · rw [List.getElem?_set_ne i.c2]; exact h.gr
  · obtain ⟨h1, cs, h2, h3⟩ := h.sS k e
    exact ⟨cs, by rw [List.getElem?_set_ne (Ne.symm h1.2.2.1)]; exact h2, h3⟩
  · rw [List.getElem?_set_ne (by have := i.l3; omega)]; exact h.keep j hj

theorem VisAt.setOn (h : VisAt M0 B n x d s sk M) (f : Nat → Bool) : VisAt M0 B n x d { s with on := f } sk (M.set d.on (.cells (cellsB n f))) := by
  have i := h.ids
  refine ⟨?_, ?_, ?_, List.getElem?_set_self (lt_of_at h.on), ?_, h.sN, fun k e => ⟨(h.sS k e).1, ?_⟩, i, fun j hj => ?_⟩
  · rw [List.getElem?_set_ne i.a3.symm]; exact h.v
  · rw [List.getElem?_set_ne i.b2.symm]; exact h.lo
  · rw [List.getElem?_set_ne i.c1.symm]; exact h.nu
  · rw [List.getElem?_set_ne i.d1]; exact h.gr
  · obtain ⟨h1, cs, h2, h3⟩ := h.sS k e
    exact ⟨cs, by rw [List.getElem?_set_ne (Ne.symm h1.2.2.2.1)]; exact h2, h3⟩
  · rw [List.getElem?_set_ne (by have := i.l4; omega)]; exact h.keep j hj

theorem VisAt.setGr (h : VisAt M0 B n x d s sk M) (f : Nat → Nat) : VisAt M0 B n x d { s with grp := f } sk (M.set d.gr (.cells (cellsN n f))) := by
  have i := h.ids
  refine ⟨?_, ?_, ?_, ?_, List.getElem?_set_self (lt_of_at h.gr), h.sN, fun k e => ⟨(h.sS k e).1, ?_⟩, i, fun j hj => ?_⟩
  · rw [List.getElem?_set_ne i.a4.symm]; exact h.v
  · rw [List.getElem?_set_ne i.b3.symm]; exact h.lo
  · rw [List.getElem?_set_ne i.c2.symm]; exact h.nu
  · rw [List.getElem?_set_ne i.d1.symm]; exact h.on
  · obtain ⟨h1, cs, h2, h3⟩ := h.sS k e
    exact ⟨cs, by rw [List.getElem?_set_ne (Ne.symm h1.2.2.2.2.1)]; exact h2, h3⟩
  · rw [List.getElem?_set_ne (by have := i.l5; omega)]; exact h.keep j hj

/-- The stack is another one. -/
theorem VisAt.setStk (h : VisAt M0 B n x d s sk M) (M1 : AMem) (sk1 : Option Nat) (l : List Nat) (hv : M1[d.v]? = some (.cells [x, .arr d.lo 0 n 1, .arr d.nu 0 n 1, .arr d.on 0 n 1, wordsV sk1 l.length, V.int s.next, .arr d.gr 0 n 1, V.int s.groups]))
    (hk : ∀ j, j ≠ d.v → sk ≠ some j → j < M.length → M1[j]? = M[j]?) (hB : B ≤ M.length) (hN : sk1 = none → l = [])
    (hS : ∀ k, sk1 = some k → (k ≠ d.v ∧ k ≠ d.lo ∧ k ≠ d.nu ∧ k ≠ d.on ∧ k ≠ d.gr ∧ B ≤ k) ∧ ∃ cs, M1[k]? = some (.cells cs) ∧ cs.take l.length = l.map fun j : Nat => V.int (j : Int)) :
    VisAt M0 B n x d { s with stk := l } sk1 M1 := by
  have i := h.ids
  have sne : ∀ k, sk = some k → k ≠ d.lo ∧ k ≠ d.nu ∧ k ≠ d.on ∧ k ≠ d.gr ∧ B ≤ k := fun k e => (h.sS k e).1.2
  refine ⟨hv, ?_, ?_, ?_, ?_, hN, hS, i, fun j hj => ?_⟩
  · rw [hk _ i.a1.symm (fun e => (sne _ e).1 rfl) (lt_of_at h.lo)]; exact h.lo
  · rw [hk _ i.a2.symm (fun e => (sne _ e).2.1 rfl) (lt_of_at h.nu)]; exact h.nu
  · rw [hk _ i.a3.symm (fun e => (sne _ e).2.2.1 rfl) (lt_of_at h.on)]; exact h.on
  · rw [hk _ i.a4.symm (fun e => (sne _ e).2.2.2.1 rfl) (lt_of_at h.gr)]; exact h.gr
  · rw [hk j (by have := i.l1; omega) (fun e => by have := (sne _ e).2.2.2.2; omega) (by omega)]
    exact h.keep j hj
end
end Go.Ax

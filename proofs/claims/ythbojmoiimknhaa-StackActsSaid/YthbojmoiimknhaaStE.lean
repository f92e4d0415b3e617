import Derived.Test.YthbojmoiimknhaaStD
set_option linter.unusedSimpArgs false
set_option linter.unusedVariables false
namespace Go.Ax
open Go.Proofs

/-- A frame of the plain list: its numbers, and the object that has its pointers. -/
structure LFrm where
  f : Frm
  id : Nat

def LFrm.cells (x : LFrm) : List V := [.int x.f.kind, .int x.f.a, .int x.f.b, .arr x.id 0 x.f.l.length 1]

def listV (k : Option Nat) (n : Nat) : V := match k with
  | none => .list .full []
  | some k => .arr k 0 n 4

/-- The plain list in memory. -/
structure ListAt (M : AMem) (ls : List LFrm) (k : Option Nat) : Prop where
  fnone : k = none → ls = []
  fsome : ∀ k', k = some k' → ∃ cs, M[k']? = some (.cells cs) ∧ cs.take (4 * ls.length) = ls.flatMap LFrm.cells
  each : ∀ x ∈ ls, ∃ cs, M[x.id]? = some (.cells cs) ∧ cs.take x.f.l.length = x.f.l.map V.int
  ids : (ls.map LFrm.id).Nodup
  sep : ∀ k' x, k = some k' → x ∈ ls → x.id ≠ k'

theorem ListAt.same {M M' : AMem} {ls : List LFrm} {k : Option Nat} (h : ListAt M ls k) (hk : ∀ k', k = some k' → M'[k']? = M[k']?) (hx : ∀ x ∈ ls, M'[x.id]? = M[x.id]?) : ListAt M' ls k :=
  ⟨h.fnone, fun k' e => by rw [hk k' e]; exact h.fsome k' e, fun x hxm => by rw [hx x hxm]; exact h.each x hxm, h.ids, h.sep⟩

theorem stack_same {M M' : AMem} {i : Nat} {most : Int} {ws : List Int} {k : Option Nat} (h : StackAt M i most ws k) (hi : M'[i]? = M[i]?) (hk : ∀ k', k = some k' → M'[k']? = M[k']?) : StackAt M' i most ws k :=
  ⟨by rw [hi]; exact h.cells, h.none, fun k' e => by rw [hk k' e]; exact h.some k' e⟩

/-- Both, apart from each other. -/
structure ActSt (M : AMem) (i : Nat) (most : Int) (ls : List LFrm) (k lk : Option Nat) : Prop where
  stack : StackAt M i most (encL (ls.map LFrm.f)) k
  list : ListAt M ls lk
  ok : ∀ x ∈ ls, x.f.ok
  a1 : ∀ j, lk = some j → j ≠ i ∧ k ≠ some j
  a2 : ∀ x ∈ ls, x.id ≠ i ∧ k ≠ some x.id
end Go.Ax

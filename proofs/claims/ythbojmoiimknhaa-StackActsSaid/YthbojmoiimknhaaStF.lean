import Derived.Test.YthbojmoiimknhaaStE
set_option linter.unusedSimpArgs false
set_option linter.unusedVariables false
namespace Go.Ax
open Go.Proofs
/-- A part of a code: the way to it. -/
def subC : List Nat → Code → Code
  | [], c => c
  | 0 :: p, .seq a _ => subC p a
  | _ :: p, .seq _ b => subC p b
  | 0 :: p, .cond _ a _ => subC p a
  | _ :: p, .cond _ _ b => subC p b
  | _ :: p, .loop c => subC p c
  | _ :: p, .block _ c => subC p c
  | _, c => c
noncomputable def body3 : Code := Try.f3.body.getD .skip

/-- An act, as it is handed in. -/
structure ActIn where
  kd : Int
  f : Frm
  n : Int
def ActIn.cells (a : ActIn) : List V := [.prim (.int .u8 a.kd), .int a.f.kind, .int a.f.a, .int a.f.b, .list .dull (a.f.l.map .int), .int a.n]

/-- How the registers and the memory stand at the beginning of a round. -/
structure ActR (most : Int) (i : Nat) (ls : List LFrm) (k lk : Option Nat) (acts : List V) (n : Nat) (F : Fr) (M : AMem) : Prop where
  st : ActSt M i most ls k lk
  len : (encL (ls.map LFrm.f)).length ≤ most
  f0 : look F 0 = V.int most
  f5 : look F 5 = .ptr i 0
  f7 : look F 7 = listV lk ls.length
  f8 : look F 8 = V.int (encL (ls.map LFrm.f)).length
  f51 : look F 51 = .list .dull acts
  f52 : look F 52 = V.int acts.length
  f53 : look F 53 = V.int n

/-- The act's own object. -/
structure ActX (a : ActIn) (x i : Nat) (ls : List LFrm) (k lk : Option Nat) (F : Fr) (M : AMem) : Prop where
  f10 : look F 10 = .ptr x 0
  at_ : M[x]? = some (.cells a.cells)
  ne : x ≠ i ∧ k ≠ some x ∧ lk ≠ some x ∧ ∀ y ∈ ls, y.id ≠ x
end Go.Ax

/-
  StackNil of layer 18 answers true for every number, and leaves all memory as it was: proved of every input, with no condition.
-/
import Derived.Test.YthbojmoiimknhaaSt3
import Derived.Test.YthbojmoiimknhaaAxRow
import Derived.Test.YthbojmoiimknhaaRows
set_option linter.unusedSimpArgs false
set_option linter.unusedVariables false
namespace Go.Proofs.Ythbojmoiimknhaa
open Go.ChangeShapes Go.WideShapes Go.ChangeAt Go.RowKit Go.Ax

theorem Try.own : ownKnob Try.prog.godebug = none := by kernel_rfl
theorem Try.laidOut : laidOutB Try.prog = true := by kernel_rfl

theorem of3 : Sh.ofAll Try.prog [.int .i64] [3] := by
  have h : Try.prog.underlying 3 = some (.int .i64) := by kernel_rfl
  simp only [Sh.ofAll, Sh.of, h, and_self]
theorem spec_fn (H : Type) (d : DataW H) : Rows.stackNilSpec.fn H [d] = { results := [.lit (.bool true)], args := [d] } := rfl

set_option maxRecDepth 100000 in
theorem nil_lifted (os : Os) (started : os.Started) (H : Type) (enc : TypeId × Value → H) :
    ReturnsInHanded {} Try.checked os 4 .any (Rows.stackNilSpec.pre6 enc Try.prog Try.f4 Rows.stackNilRow.domain false) (Rows.stackNilSpec.post enc Try.prog Try.f4 false true false false) := by
  refine returnsInHanded_of_change (C := Try.checked) Try.own started (by kernel_rfl) Try.func4
    (ChangeSpec.witness6 (enc := enc) (C := Try.checked) false ⟨#[], #[.int .i64 0], []⟩ 8 (by kernel_rfl) (by kernel_rfl) (by kernel_rfl) (by kernel_rfl)) ?_
  intro W base args ds gs before hval hW _ _
  refine law_calls (P := Try.prog) (f := Try.f4) (k := 4) (s := Rows.stackNilSpec) (tb := 4) [.int .i64] [3] (by kernel_rfl) Try.laidOut (by kernel_rfl) rfl ?_ (by kernel_rfl) (by kernel_rfl) rfl ?_ ?_ hval hW
  · exact of3
  · intro ds hd
    obtain ⟨d, rfl⟩ := List.length_eq_one_iff.1 (hd.trans rfl)
    exact spec_fn H d
  · intro xs hx
    obtain ⟨x, rfl, hv1⟩ := valAll_one hx
    obtain ⟨n, rfl, _⟩ := val_int hv1
    exact nil_ok n []

theorem nil_holds : Rows.StackNilSaid :=
  OpenClaim.holds_of_wide 4 Try.f4 rfl rfl rfl rfl rfl rfl rfl ⟨rfl, rfl, rfl, rfl, rfl⟩ rfl rfl rfl rfl rfl (by kernel_rfl) Try.func4 (by kernel_rfl)
    (of_decide_eq_true (by kernel_rfl)) (by unfold Func.isWrapper; first | (rw [if_pos (by decide +kernel)]; kernel_rfl) | (rw [if_neg (by decide +kernel)]; exact ⟨rfl, rfl⟩))
    (fun os started H enc _ => nil_lifted os started H enc)
#print axioms nil_holds
end Go.Proofs.Ythbojmoiimknhaa

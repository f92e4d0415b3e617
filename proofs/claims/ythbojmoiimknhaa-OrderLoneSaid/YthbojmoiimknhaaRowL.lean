/-
  OrderLone of layer 5 answers true for every slice of rows, and leaves all memory as it was: proved of every input, with no condition.
-/
import Derived.Test.YthbojmoiimknhaaOrLp
import Derived.Test.YthbojmoiimknhaaOrV
set_option linter.unusedSimpArgs false
set_option linter.unusedVariables false
namespace Go.Proofs.Ythbojmoiimknhaa
open Go.ChangeShapes Go.WideShapes Go.ChangeAt Go.RowKit Go.Ax

theorem lone_spec_fn (H : Type) (d : DataW H) : Rows.orderLoneSpec.fn H [d] = { results := [.lit (.bool true)], args := [d] } := rfl

set_option maxRecDepth 100000 in
theorem lone_lifted (os : Os) (started : os.Started) (H : Type) (enc : TypeId × Value → H) :
    ReturnsInHanded {} Try.checked os 10 .any (Rows.orderLoneSpec.pre6 enc Try.prog Try.f10 Rows.orderLoneRow.domain false) (Rows.orderLoneSpec.post enc Try.prog Try.f10 false true false false) := by
  refine returnsInHanded_of_change_sized (C := Try.checked) Try.own started (by kernel_rfl) Try.func10
    (ChangeSpec.witness6 (enc := enc) (C := Try.checked) false ⟨#[], #[.slice none 0 0], []⟩ 8 (by kernel_rfl) (by kernel_rfl) (by kernel_rfl) (by kernel_rfl)) ?_
  intro W base args ds gs before hval hW _ hreach _
  refine law_calls (P := Try.prog) (f := Try.f10) (k := 10) (s := Rows.orderLoneSpec) (tb := 4) [toSh] [48] (by kernel_rfl) Try.laidOut (by kernel_rfl) rfl ?_ (by kernel_rfl) (by kernel_rfl) rfl ?_ ?_ hval hW hreach
  · exact of48
  · intro ds hd
    obtain ⟨d, rfl⟩ := List.length_eq_one_iff.1 (hd.trans rfl)
    exact lone_spec_fn H d
  · intro xs hx
    obtain ⟨x, rfl, hv1⟩ := valAll_one hx
    obtain ⟨to, rfl, h1, h2⟩ := to_has hv1
    exact order_lone_law [] to h1 h2

theorem lone_holds : Rows.OrderLoneSaid :=
  OpenClaim.holds_of_wide 10 Try.f10 rfl rfl rfl rfl rfl rfl rfl ⟨rfl, rfl, rfl, rfl, rfl⟩ rfl rfl rfl rfl rfl (by kernel_rfl) Try.func10 (by kernel_rfl)
    (of_decide_eq_true (by kernel_rfl)) (by unfold Func.isWrapper; first | (rw [if_pos (by decide +kernel)]; kernel_rfl) | (rw [if_neg (by decide +kernel)]; exact ⟨rfl, rfl⟩))
    (fun os started H enc _ => lone_lifted os started H enc)
#print axioms lone_holds
end Go.Proofs.Ythbojmoiimknhaa

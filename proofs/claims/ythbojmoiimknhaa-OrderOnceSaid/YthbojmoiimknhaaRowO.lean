/-
  OrderOnce of layer 5 answers true for every slice of rows and every number, and leaves all memory as it was: proved of every input, with no condition.
-/
import Derived.Test.YthbojmoiimknhaaOrOn
import Derived.Test.YthbojmoiimknhaaOrV
set_option linter.unusedSimpArgs false
set_option linter.unusedVariables false
namespace Go.Proofs.Ythbojmoiimknhaa
open Go.ChangeShapes Go.WideShapes Go.ChangeAt Go.RowKit Go.Ax

theorem once_len2 {α : Type} {l : List α} (h : l.length = 2) : ∃ d e, l = [d, e] := by
  match l, h with
  | [d, e], _ => exact ⟨d, e, rfl⟩

theorem once_spec_fn (H : Type) (d e : DataW H) : Rows.orderOnceSpec.fn H [d, e] = { results := [.lit (.bool true)], args := [d, e] } := rfl

set_option maxRecDepth 100000 in
theorem once_lifted (os : Os) (started : os.Started) (H : Type) (enc : TypeId × Value → H) :
    ReturnsInHanded {} Try.checked os 11 .any (Rows.orderOnceSpec.pre6 enc Try.prog Try.f11 Rows.orderOnceRow.domain false) (Rows.orderOnceSpec.post enc Try.prog Try.f11 false true false false) := by
  refine returnsInHanded_of_change_sized (C := Try.checked) Try.own started (by kernel_rfl) Try.func11
    (ChangeSpec.witness6 (enc := enc) (C := Try.checked) false ⟨#[], #[.slice none 0 0, .int .i64 0], []⟩ 8 (by kernel_rfl) (by kernel_rfl) (by kernel_rfl) (by kernel_rfl)) ?_
  intro W base args ds gs before hval hW _ hreach _
  refine law_calls (P := Try.prog) (f := Try.f11) (k := 11) (s := Rows.orderOnceSpec) (tb := 4) [toSh, .int .i64] [48, 3] (by kernel_rfl) Try.laidOut (by kernel_rfl) rfl ?_ (by kernel_rfl) (by kernel_rfl) rfl ?_ ?_ hval hW hreach
  · exact of48_3
  · intro ds hd
    obtain ⟨d, e, rfl⟩ := once_len2 (hd.trans rfl)
    exact once_spec_fn H d e
  · intro xs hx
    obtain ⟨x, y, rfl, hv1, hv2⟩ := valAll_two hx
    obtain ⟨to, rfl, h1, h2⟩ := to_has hv1
    obtain ⟨n, rfl, _⟩ := val_int hv2
    exact order_once_law [] to n h1 h2

theorem once_holds : Rows.OrderOnceSaid :=
  OpenClaim.holds_of_wide 11 Try.f11 rfl rfl rfl rfl rfl rfl rfl ⟨rfl, rfl, rfl, rfl, rfl⟩ rfl rfl rfl rfl rfl (by kernel_rfl) Try.func11 (by kernel_rfl)
    (of_decide_eq_true (by kernel_rfl)) (by unfold Func.isWrapper; first | (rw [if_pos (by decide +kernel)]; kernel_rfl) | (rw [if_neg (by decide +kernel)]; exact ⟨rfl, rfl⟩))
    (fun os started H enc _ => once_lifted os started H enc)
#print axioms once_holds
end Go.Proofs.Ythbojmoiimknhaa

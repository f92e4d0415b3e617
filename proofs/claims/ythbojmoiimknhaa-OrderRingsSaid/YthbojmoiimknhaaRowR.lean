/-
  OrderRings of layer 5 answers true for every number, and leaves all memory as it was: proved of every input, with no condition.
-/
import Derived.Test.YthbojmoiimknhaaOrRl
import Derived.Test.YthbojmoiimknhaaOrV
set_option linter.unusedSimpArgs false
set_option linter.unusedVariables false
namespace Go.Proofs.Ythbojmoiimknhaa
open Go.ChangeShapes Go.WideShapes Go.ChangeAt Go.RowKit Go.Ax

theorem rings_of5 : Sh.ofAll Try.prog [.int .u8] [5] := by
  have h5 : Try.prog.underlying 5 = some (.int .u8) := by kernel_rfl
  exact ⟨h5, trivial⟩
theorem rings_u8 {n : Int} (h : (Lit.int .u8 n).wf = true) : 0 ≤ n ∧ n < 256 := by
  simp only [Lit.wf, Bool.and_eq_true, decide_eq_true_eq] at h
  have h1 : 0 ≤ n := h.1
  have h2 : n ≤ 255 := h.2
  exact ⟨h1, by omega⟩

theorem rings_spec_fn (H : Type) (d : DataW H) : Rows.orderRingsSpec.fn H [d] = { results := [.lit (.bool true)], args := [d] } := rfl

set_option maxRecDepth 100000 in
theorem rings_lifted (os : Os) (started : os.Started) (H : Type) (enc : TypeId × Value → H) :
    ReturnsInHanded {} Try.checked os 9 .any (Rows.orderRingsSpec.pre6 enc Try.prog Try.f9 Rows.orderRingsRow.domain false) (Rows.orderRingsSpec.post enc Try.prog Try.f9 false true false false) := by
  refine returnsInHanded_of_change (C := Try.checked) Try.own started (by kernel_rfl) Try.func9
    (ChangeSpec.witness6 (enc := enc) (C := Try.checked) false ⟨#[], #[.int .u8 0], []⟩ 8 (by kernel_rfl) (by kernel_rfl) (by kernel_rfl) (by kernel_rfl)) ?_
  intro W base args ds gs before hval hW _ _
  refine law_calls (P := Try.prog) (f := Try.f9) (k := 9) (s := Rows.orderRingsSpec) (tb := 4) [.int .u8] [5] (by kernel_rfl) Try.laidOut (by kernel_rfl) rfl ?_ (by kernel_rfl) (by kernel_rfl) rfl ?_ ?_ hval hW
  · exact rings_of5
  · intro ds hd
    obtain ⟨d, rfl⟩ := List.length_eq_one_iff.1 (hd.trans rfl)
    exact rings_spec_fn H d
  · intro xs hx
    obtain ⟨x, rfl, hv1⟩ := valAll_one hx
    obtain ⟨n, rfl, hn⟩ := val_int hv1
    have h8 := rings_u8 hn
    obtain ⟨b, rfl⟩ : ∃ b : Nat, n = b := ⟨n.toNat, by omega⟩
    exact order_rings_law [] b (by omega)

theorem rings_holds : Rows.OrderRingsSaid :=
  OpenClaim.holds_of_wide 9 Try.f9 rfl rfl rfl rfl rfl rfl rfl ⟨rfl, rfl, rfl, rfl, rfl⟩ rfl rfl rfl rfl rfl (by kernel_rfl) Try.func9 (by kernel_rfl)
    (of_decide_eq_true (by kernel_rfl)) (by unfold Func.isWrapper; first | (rw [if_pos (by decide +kernel)]; kernel_rfl) | (rw [if_neg (by decide +kernel)]; exact ⟨rfl, rfl⟩))
    (fun os started H enc _ => rings_lifted os started H enc)
#print axioms rings_holds
end Go.Proofs.Ythbojmoiimknhaa

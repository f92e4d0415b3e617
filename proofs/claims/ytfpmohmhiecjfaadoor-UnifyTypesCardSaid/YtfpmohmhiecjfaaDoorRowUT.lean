/-
  UnifyTypes of layer 6 answers true for every slice of nodes, and leaves all memory as it was: proved of every input, with no condition; its card: the listed tables are tied to the program's text by the given tie.
-/
import Derived.Test.YtfpmohmhiecjfaaDoorUnRow
import Derived.Test.YtfpmohmhiecjfaaDoorUnZc
import Derived.Test.YtfpmohmhiecjfaaDoorCards
import Derived.Test.YtfpmohmhiecjfaaDoorTie
set_option linter.unusedSimpArgs false
set_option linter.unusedVariables false
namespace Go.Proofs.YtfpmohmhiecjfaaDoor
open Go.ChangeShapes Go.WideShapes Go.ChangeAt Go.RowKit Go.Ax

theorem types_spec_fn (H : Type) (d0 : DataW H) : Rows.unifyTypesSpec.fn H [d0] = { results := [.lit (.bool true)], args := [d0] } := rfl

set_option maxRecDepth 100000 in
theorem types_lifted (os : Os) (started : os.Started) (H : Type) (enc : TypeId × Value → H) :
    ReturnsInHanded {} Tryd.checked os 6 .any (fun w args => (Rows.unifyTypesSpec.pre enc Tryd.prog Tryd.f6 Rows.unifyTypesRow.domain false w args ∧ laidMetH Tryd.prog laid3 w) ∧ sizedMet enc Tryd.prog Tryd.f6 (OpenSpec.ofChange Rows.unifyTypesSpec) false w args)
      (Rows.unifyTypesSpec.post enc Tryd.prog Tryd.f6 false true false false) := by
  refine returnsInHanded_of_change_and (C := Tryd.checked) (X := fun w _ => laidMetH Tryd.prog laid3 w) (fun _ _ _ hh h => h.of_heap hh) Tryd.own started (by kernel_rfl) Tryd.func6
    (ChangeSpec.witness_shaped (enc := enc) (C := Tryd.checked) (os := os) (X := fun w _ => laidMetH Tryd.prog laid3 w) false (World.doorLaid Tryd.prog 400 os) #[.slice none 0 0] 8 rfl (World.shaped_of_RefB (by kernel_rfl) (by kernel_rfl)) (by kernel_rfl) (by kernel_rfl) (by kernel_rfl) (door_met os _)) ?_
  intro W base args ds gs before hval hW _ hreach hL _
  refine law_calls (P := Tryd.prog) (f := Tryd.f6) (k := 6) (s := Rows.unifyTypesSpec) (tb := 4) [nlSh] [33] (by kernel_rfl) Tryd.laidOut (by kernel_rfl) rfl ?_ (by kernel_rfl) (by kernel_rfl) rfl ?_ ?_ hval hW hreach
  · exact ⟨of33, trivial⟩
  · intro ds hd
    obtain ⟨d0, rfl⟩ := List.length_eq_one_iff.1 (hd.trans rfl)
    exact types_spec_fn H d0
  · intro xs hx
    obtain ⟨x0, rfl, hv0⟩ := valAll_one hx
    obtain ⟨l0, rfl, b0, k0⟩ := nl_has hv0
    exact (types_ok l0 k0 b0 []).mono fun v M' h => h.1

theorem types_holds : Rows.UnifyTypesSaid :=
  OpenClaim.holds_of_wide 6 Tryd.f6 rfl rfl rfl rfl rfl rfl rfl ⟨rfl, rfl, rfl, rfl, rfl⟩ rfl rfl rfl rfl rfl (by kernel_rfl) Tryd.func6 (by kernel_rfl)
    (of_decide_eq_true (by kernel_rfl)) (by unfold Func.isWrapper; first | (rw [if_pos (by decide +kernel)]; kernel_rfl) | (rw [if_neg (by decide +kernel)]; exact ⟨rfl, rfl⟩))
    (fun os started H enc _ => types_lifted os started H enc)

theorem types_card_holds : Rows.UnifyTypesCardSaid :=
  Claim7.holds_tied_plain_at .later [] [.data, .data, .data] true (true, "ab892c47436a2b01b2553c2750e9d6ddd2b8414ff35b6f09e3d6a20161e010b1") false
    types_holds (fun _ h => by cases h) (by kernel_rfl) (fun _ h => by cases h) unifyTypes_row_tie rfl ⟨rfl, rfl⟩ (by kernel_rfl) rfl
    (fun f fn hf hfn => by
      obtain rfl : f = 6 := Option.some.inj ((show Tryd.prog.funcNamed "reverie/reverielaw06.UnifyTypes" = some 6 by kernel_rfl).symm.trans hf) |>.symm
      obtain rfl : fn = Tryd.f6 := (Option.some.inj (Tryd.func6.symm.trans hfn)).symm
      exact ⟨by kernel_rfl, fun j t ht => by
        rw [Tryd.params6] at ht
        have hm : t ∈ [33] := by simpa using Array.mem_of_getElem? ht
        have hall : ([33].all fun u => !Tryd.prog.wantsStandIn u) = true := by kernel_rfl
        exact (show Tryd.prog.wantsStandIn t = false by simpa using List.all_eq_true.1 hall t hm)⟩)
    (by kernel_rfl)
#print axioms types_card_holds
end Go.Proofs.YtfpmohmhiecjfaaDoor

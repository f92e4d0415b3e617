/-
  UnifySizes of layer 6 answers true for every two slices of nodes and every number, and leaves all memory as it was: proved of every input, with no condition; its card: the listed tables are tied to the program's text by the given tie.
-/
import Derived.Test.YtfpmohmhiecjfaaDoorUnRow
import Derived.Test.YtfpmohmhiecjfaaDoorUnZz
import Derived.Test.YtfpmohmhiecjfaaDoorCards
import Derived.Test.YtfpmohmhiecjfaaDoorTie
set_option linter.unusedSimpArgs false
set_option linter.unusedVariables false
namespace Go.Proofs.YtfpmohmhiecjfaaDoor
open Go.ChangeShapes Go.WideShapes Go.ChangeAt Go.RowKit Go.Ax

theorem sizes_spec_fn (H : Type) (d0 d1 d2 : DataW H) : Rows.unifySizesSpec.fn H [d0, d1, d2] = { results := [.lit (.bool true)], args := [d0, d1, d2] } := rfl

set_option maxRecDepth 100000 in
theorem sizes_lifted (os : Os) (started : os.Started) (H : Type) (enc : TypeId × Value → H) :
    ReturnsInHanded {} Tryd.checked os 8 .any (fun w args => (Rows.unifySizesSpec.pre enc Tryd.prog Tryd.f8 Rows.unifySizesRow.domain false w args ∧ laidMetH Tryd.prog laid3 w) ∧ sizedMet enc Tryd.prog Tryd.f8 (OpenSpec.ofChange Rows.unifySizesSpec) false w args)
      (Rows.unifySizesSpec.post enc Tryd.prog Tryd.f8 false true false false) := by
  refine returnsInHanded_of_change_and (C := Tryd.checked) (X := fun w _ => laidMetH Tryd.prog laid3 w) (fun _ _ _ hh h => h.of_heap hh) Tryd.own started (by kernel_rfl) Tryd.func8
    (ChangeSpec.witness_shaped (enc := enc) (C := Tryd.checked) (os := os) (X := fun w _ => laidMetH Tryd.prog laid3 w) false (World.doorLaid Tryd.prog 400 os) #[.slice none 0 0, .slice none 0 0, .int .i64 0] 8 rfl (World.shaped_of_RefB (by kernel_rfl) (by kernel_rfl)) (by kernel_rfl) (by kernel_rfl) (by kernel_rfl) (door_met os _)) ?_
  intro W base args ds gs before hval hW _ hreach hL _
  refine law_calls (P := Tryd.prog) (f := Tryd.f8) (k := 8) (s := Rows.unifySizesSpec) (tb := 4) [nlSh, nlSh, .int .i64] [33, 33, 3] (by kernel_rfl) Tryd.laidOut (by kernel_rfl) rfl ?_ (by kernel_rfl) (by kernel_rfl) rfl ?_ ?_ hval hW hreach
  · exact ⟨of33, of33, of3, trivial⟩
  · intro ds hd
    obtain ⟨d0, d1, d2, rfl⟩ := len_three (hd.trans rfl)
    exact sizes_spec_fn H d0 d1 d2
  · intro xs hx
    obtain ⟨x0, x1, x2, rfl, hv0, hv1, hv2⟩ := valAll_three hx
    obtain ⟨l0, rfl, b0, k0⟩ := nl_has hv0
    obtain ⟨l1, rfl, b1, k1⟩ := nl_has hv1
    obtain ⟨l2, rfl, k2⟩ := val_int hv2
    exact (sizes_ok l0 l1 l2 k0 k1 b0 b1 []).mono fun v M' h => h.1

theorem sizes_holds : Rows.UnifySizesSaid :=
  OpenClaim.holds_of_wide 8 Tryd.f8 rfl rfl rfl rfl rfl rfl rfl ⟨rfl, rfl, rfl, rfl, rfl⟩ rfl rfl rfl rfl rfl (by kernel_rfl) Tryd.func8 (by kernel_rfl)
    (of_decide_eq_true (by kernel_rfl)) (by unfold Func.isWrapper; first | (rw [if_pos (by decide +kernel)]; kernel_rfl) | (rw [if_neg (by decide +kernel)]; exact ⟨rfl, rfl⟩))
    (fun os started H enc _ => sizes_lifted os started H enc)

theorem sizes_card_holds : Rows.UnifySizesCardSaid :=
  Claim7.holds_tied_plain_at .later [] [.data, .data, .data] true (true, "ab892c47436a2b01b2553c2750e9d6ddd2b8414ff35b6f09e3d6a20161e010b1") false
    sizes_holds (fun _ h => by cases h) (by kernel_rfl) (fun _ h => by cases h) unifySizes_row_tie rfl ⟨rfl, rfl⟩ (by kernel_rfl) rfl
    (fun f fn hf hfn => by
      obtain rfl : f = 8 := Option.some.inj ((show Tryd.prog.funcNamed "reverie/reverielaw06.UnifySizes" = some 8 by kernel_rfl).symm.trans hf) |>.symm
      obtain rfl : fn = Tryd.f8 := (Option.some.inj (Tryd.func8.symm.trans hfn)).symm
      exact ⟨by kernel_rfl, fun j t ht => by
        rw [Tryd.params8] at ht
        have hm : t ∈ [33, 3] := by simpa using Array.mem_of_getElem? ht
        have hall : ([33, 3].all fun u => !Tryd.prog.wantsStandIn u) = true := by kernel_rfl
        exact (show Tryd.prog.wantsStandIn t = false by simpa using List.all_eq_true.1 hall t hm)⟩)
    (by kernel_rfl)
#print axioms sizes_card_holds
end Go.Proofs.YtfpmohmhiecjfaaDoor

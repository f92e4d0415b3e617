/-
  UnifyPairs of layer 6 answers true for every slice of slices of nodes, and leaves all memory as it was: proved of every input, with no condition; its card: the listed tables are tied to the program's text by the given tie.
-/
import Derived.Test.YtfpmohmhiecjfaaDoorUnRow
import Derived.Test.YtfpmohmhiecjfaaDoorUnY
import Derived.Test.YtfpmohmhiecjfaaDoorCards
import Derived.Test.YtfpmohmhiecjfaaDoorTie
set_option linter.unusedSimpArgs false
set_option linter.unusedVariables false
namespace Go.Proofs.YtfpmohmhiecjfaaDoor
open Go.ChangeShapes Go.WideShapes Go.ChangeAt Go.RowKit Go.Ax

theorem pairs_spec_fn (H : Type) (d : DataW H) : Rows.unifyPairsSpec.fn H [d] = { results := [.lit (.bool true)], args := [d] } := rfl

set_option maxRecDepth 100000 in
theorem pairs_lifted (os : Os) (started : os.Started) (H : Type) (enc : TypeId × Value → H) :
    ReturnsInHanded {} Tryd.checked os 3 .any (fun w args => (Rows.unifyPairsSpec.pre enc Tryd.prog Tryd.f3 Rows.unifyPairsRow.domain false w args ∧ laidMetH Tryd.prog laid3 w) ∧ sizedMet enc Tryd.prog Tryd.f3 (OpenSpec.ofChange Rows.unifyPairsSpec) false w args)
      (Rows.unifyPairsSpec.post enc Tryd.prog Tryd.f3 false true false false) := by
  refine returnsInHanded_of_change_and (C := Tryd.checked) (X := fun w _ => laidMetH Tryd.prog laid3 w) (fun _ _ _ hh h => h.of_heap hh) Tryd.own started (by kernel_rfl) Tryd.func3
    (ChangeSpec.witness_shaped (enc := enc) (C := Tryd.checked) (os := os) (X := fun w _ => laidMetH Tryd.prog laid3 w) false (World.doorLaid Tryd.prog 400 os) #[.slice none 0 0] 8 rfl (World.shaped_of_RefB (by kernel_rfl) (by kernel_rfl)) (by kernel_rfl) (by kernel_rfl) (by kernel_rfl) (door_met os _)) ?_
  intro W base args ds gs before hval hW _ hreach _ _
  refine law_calls (P := Tryd.prog) (f := Tryd.f3) (k := 3) (s := Rows.unifyPairsSpec) (tb := 4) [nllSh] [22] (by kernel_rfl) Tryd.laidOut (by kernel_rfl) rfl ?_ (by kernel_rfl) (by kernel_rfl) rfl ?_ ?_ hval hW hreach
  · exact ⟨of22, trivial⟩
  · intro ds hd
    obtain ⟨d, rfl⟩ := List.length_eq_one_iff.1 (hd.trans rfl)
    exact pairs_spec_fn H d
  · intro xs hx
    obtain ⟨x, rfl, hv1⟩ := valAll_one hx
    obtain ⟨ls, rfl, h1, h2, h3⟩ := nll_has hv1
    exact (pairs_ok ls h3 h1 h2 []).mono fun v M' h => h.1

theorem pairs_holds : Rows.UnifyPairsSaid :=
  OpenClaim.holds_of_wide 3 Tryd.f3 rfl rfl rfl rfl rfl rfl rfl ⟨rfl, rfl, rfl, rfl, rfl⟩ rfl rfl rfl rfl rfl (by kernel_rfl) Tryd.func3 (by kernel_rfl)
    (of_decide_eq_true (by kernel_rfl)) (by unfold Func.isWrapper; first | (rw [if_pos (by decide +kernel)]; kernel_rfl) | (rw [if_neg (by decide +kernel)]; exact ⟨rfl, rfl⟩))
    (fun os started H enc _ => pairs_lifted os started H enc)

theorem pairs_card_holds : Rows.UnifyPairsCardSaid :=
  Claim7.holds_tied_plain_at .later [] [.data, .data, .data] true (true, "ab892c47436a2b01b2553c2750e9d6ddd2b8414ff35b6f09e3d6a20161e010b1") false
    pairs_holds (fun _ h => by cases h) (by kernel_rfl) (fun _ h => by cases h) unifyPairs_row_tie rfl ⟨rfl, rfl⟩ (by kernel_rfl) rfl
    (fun f fn hf hfn => by
      obtain rfl : f = 3 := Option.some.inj ((show Tryd.prog.funcNamed "reverie/reverielaw06.UnifyPairs" = some 3 by kernel_rfl).symm.trans hf) |>.symm
      obtain rfl : fn = Tryd.f3 := (Option.some.inj (Tryd.func3.symm.trans hfn)).symm
      exact ⟨by kernel_rfl, fun j t ht => by
        rw [Tryd.params3] at ht
        have hm : t ∈ [22] := by simpa using Array.mem_of_getElem? ht
        have hall : ([22].all fun u => !Tryd.prog.wantsStandIn u) = true := by kernel_rfl
        exact (show Tryd.prog.wantsStandIn t = false by simpa using List.all_eq_true.1 hall t hm)⟩)
    (by kernel_rfl)
#print axioms pairs_card_holds
end Go.Proofs.YtfpmohmhiecjfaaDoor

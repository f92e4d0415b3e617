/-
  DERIVED. GIVEN WITH THE SEED: THE CARDS: each row of YtfpmohmhiecjfaaDoorRows.lean that lists a variable, with what it lists TIED to the program's text (the seventh form; the later family's looks); each row that meets fmt, with fmt's text TOLD by the authors' own Lean function (tested against real Go, not proved from fmt's source: count such statements apart). THE CARD IS WHAT COUNTS. Prove the row's statement (the work); the ties are given (YtfpmohmhiecjfaaDoorTie.lean); close each card by the builder's one call (the guide's Derived/Test/ToyasCard.lean, 'card_holds'). Laid BY PROGRAM, IN A SANDBOX (cutbox-door.mjs). By AI agents, Wed Nov 11 2026. No macro, syntax, notation, axiom, sorry.
-/
import Derived.Test.YtfpmohmhiecjfaaDoorRows
import GoSem.ClaimSeven
namespace Go.Proofs.YtfpmohmhiecjfaaDoor
namespace Rows

/-- THE TIED CARD OF 'reverielaw06.UnifyPairs'. -/
def unifyPairsCard : Claim7 := { stood := { row := unifyPairsRow, standIns := [], harness := (true, "ab892c47436a2b01b2553c2750e9d6ddd2b8414ff35b6f09e3d6a20161e010b1"), looks := false }, kinds := [], alts := [], laidByText := true, laidKinds := [.data, .data, .data], laidTests := true, laidLooks := .later }
def UnifyPairsCardSaid : Prop := Claim7.holds Tryd.pinned (.plain (OpenSpec.ofChange unifyPairsSpec)) unifyPairsCard

/-- THE TIED CARD OF 'reverielaw06.UnifySame'. -/
def unifySameCard : Claim7 := { stood := { row := unifySameRow, standIns := [], harness := (true, "ab892c47436a2b01b2553c2750e9d6ddd2b8414ff35b6f09e3d6a20161e010b1"), looks := false }, kinds := [], alts := [], laidByText := true, laidKinds := [.data, .data, .data], laidTests := true, laidLooks := .later }
def UnifySameCardSaid : Prop := Claim7.holds Tryd.pinned (.plain (OpenSpec.ofChange unifySameSpec)) unifySameCard

/-- THE TIED CARD OF 'reverielaw06.UnifyInto'. -/
def unifyIntoCard : Claim7 := { stood := { row := unifyIntoRow, standIns := [], harness := (true, "ab892c47436a2b01b2553c2750e9d6ddd2b8414ff35b6f09e3d6a20161e010b1"), looks := false }, kinds := [], alts := [], laidByText := true, laidKinds := [.data, .data, .data], laidTests := true, laidLooks := .later }
def UnifyIntoCardSaid : Prop := Claim7.holds Tryd.pinned (.plain (OpenSpec.ofChange unifyIntoSpec)) unifyIntoCard

/-- THE TIED CARD OF 'reverielaw06.UnifyTypes'. -/
def unifyTypesCard : Claim7 := { stood := { row := unifyTypesRow, standIns := [], harness := (true, "ab892c47436a2b01b2553c2750e9d6ddd2b8414ff35b6f09e3d6a20161e010b1"), looks := false }, kinds := [], alts := [], laidByText := true, laidKinds := [.data, .data, .data], laidTests := true, laidLooks := .later }
def UnifyTypesCardSaid : Prop := Claim7.holds Tryd.pinned (.plain (OpenSpec.ofChange unifyTypesSpec)) unifyTypesCard

/-- THE TIED CARD OF 'reverielaw06.UnifySwaps'. -/
def unifySwapsCard : Claim7 := { stood := { row := unifySwapsRow, standIns := [], harness := (true, "ab892c47436a2b01b2553c2750e9d6ddd2b8414ff35b6f09e3d6a20161e010b1"), looks := false }, kinds := [], alts := [], laidByText := true, laidKinds := [.data, .data, .data], laidTests := true, laidLooks := .later }
def UnifySwapsCardSaid : Prop := Claim7.holds Tryd.pinned (.plain (OpenSpec.ofChange unifySwapsSpec)) unifySwapsCard

/-- THE TIED CARD OF 'reverielaw06.UnifySizes'. -/
def unifySizesCard : Claim7 := { stood := { row := unifySizesRow, standIns := [], harness := (true, "ab892c47436a2b01b2553c2750e9d6ddd2b8414ff35b6f09e3d6a20161e010b1"), looks := false }, kinds := [], alts := [], laidByText := true, laidKinds := [.data, .data, .data], laidTests := true, laidLooks := .later }
def UnifySizesCardSaid : Prop := Claim7.holds Tryd.pinned (.plain (OpenSpec.ofChange unifySizesSpec)) unifySizesCard

/-- THE SECOND FORM's CARD OF 'reverielaw06.UnifyPairs'. -/
def unifyPairsUptoCard : Claim7 := { stood := { row := unifyPairsUptoRow, standIns := [], harness := (true, "ab892c47436a2b01b2553c2750e9d6ddd2b8414ff35b6f09e3d6a20161e010b1"), looks := false }, kinds := [], alts := [], laidByText := true, laidKinds := [.data, .data, .data], laidTests := true, laidLooks := .later }
def UnifyPairsUptoCardSaid : Prop := Claim7.holds Tryd.pinned (.plain (OpenSpec.upto unifyPairsSpec)) unifyPairsUptoCard

/-- THE SECOND FORM's CARD OF 'reverielaw06.UnifySame'. -/
def unifySameUptoCard : Claim7 := { stood := { row := unifySameUptoRow, standIns := [], harness := (true, "ab892c47436a2b01b2553c2750e9d6ddd2b8414ff35b6f09e3d6a20161e010b1"), looks := false }, kinds := [], alts := [], laidByText := true, laidKinds := [.data, .data, .data], laidTests := true, laidLooks := .later }
def UnifySameUptoCardSaid : Prop := Claim7.holds Tryd.pinned (.plain (OpenSpec.upto unifySameSpec)) unifySameUptoCard

/-- THE SECOND FORM's CARD OF 'reverielaw06.UnifyInto'. -/
def unifyIntoUptoCard : Claim7 := { stood := { row := unifyIntoUptoRow, standIns := [], harness := (true, "ab892c47436a2b01b2553c2750e9d6ddd2b8414ff35b6f09e3d6a20161e010b1"), looks := false }, kinds := [], alts := [], laidByText := true, laidKinds := [.data, .data, .data], laidTests := true, laidLooks := .later }
def UnifyIntoUptoCardSaid : Prop := Claim7.holds Tryd.pinned (.plain (OpenSpec.upto unifyIntoSpec)) unifyIntoUptoCard

/-- THE SECOND FORM's CARD OF 'reverielaw06.UnifyTypes'. -/
def unifyTypesUptoCard : Claim7 := { stood := { row := unifyTypesUptoRow, standIns := [], harness := (true, "ab892c47436a2b01b2553c2750e9d6ddd2b8414ff35b6f09e3d6a20161e010b1"), looks := false }, kinds := [], alts := [], laidByText := true, laidKinds := [.data, .data, .data], laidTests := true, laidLooks := .later }
def UnifyTypesUptoCardSaid : Prop := Claim7.holds Tryd.pinned (.plain (OpenSpec.upto unifyTypesSpec)) unifyTypesUptoCard

/-- THE SECOND FORM's CARD OF 'reverielaw06.UnifySwaps'. -/
def unifySwapsUptoCard : Claim7 := { stood := { row := unifySwapsUptoRow, standIns := [], harness := (true, "ab892c47436a2b01b2553c2750e9d6ddd2b8414ff35b6f09e3d6a20161e010b1"), looks := false }, kinds := [], alts := [], laidByText := true, laidKinds := [.data, .data, .data], laidTests := true, laidLooks := .later }
def UnifySwapsUptoCardSaid : Prop := Claim7.holds Tryd.pinned (.plain (OpenSpec.upto unifySwapsSpec)) unifySwapsUptoCard

/-- THE SECOND FORM's CARD OF 'reverielaw06.UnifySizes'. -/
def unifySizesUptoCard : Claim7 := { stood := { row := unifySizesUptoRow, standIns := [], harness := (true, "ab892c47436a2b01b2553c2750e9d6ddd2b8414ff35b6f09e3d6a20161e010b1"), looks := false }, kinds := [], alts := [], laidByText := true, laidKinds := [.data, .data, .data], laidTests := true, laidLooks := .later }
def UnifySizesUptoCardSaid : Prop := Claim7.holds Tryd.pinned (.plain (OpenSpec.upto unifySizesSpec)) unifySizesUptoCard
end Rows
end Go.Proofs.YtfpmohmhiecjfaaDoor

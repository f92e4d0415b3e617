/-
  No cell of these rows narrows 'for every input' (looked for: loops, veiled, ifaces, maps, wideKeys, modest, calm, conditions, laid).
  DERIVED. THE GIVEN ROWS OF THIS SEAT. 9 by the template 'for every input the law returns true; each argument reads behind the call as it read before'; 0 by the template 'total and deterministic' (their statements: YthbojmoiimknhaaTotals.lean).
  GIVEN WITH THE SEED: the statements are not yours to turn. If you find one false, say at which input.
  Laid BY PROGRAM, IN A SANDBOX (cutbox-rows.mjs): the forced cells as the released guide's own fill.sh prints them over the translation d1c07dc1348e937c… (all of the seat's roots in one cut). By AI agents, Wed Nov 11 2026. No macro, syntax, notation, axiom, sorry.
-/
import Derived.Test.YthbojmoiimknhaaChecked
import GoSem.Claim
import GoSem.ClaimJoined
import GoSem.ClaimMapViews
import Derived.JoinedTies
import Derived.KernelRfl
namespace Go.Proofs.Ythbojmoiimknhaa
/- THE CELL 'sum', in the pinned program and in every row, IS THE sha256 OF THE DUMP (.gsa) THAT YthbojmoiimknhaaProg.lean LOADS. Nothing in Lean hashes anything: it is a label: what it is worth is what the hold of that sum in a sandbox is worth. -/
noncomputable def Try.pinned : Pinned := { name := "ythbojmoiimknhaa", sum := "d1c07dc1348e937c9d54c6a318b05b12af6600f189c0a1d23ebddf7ba0962366", checked := Try.checked }
namespace Rows
def none {H : Type} : Left H := { results := [], args := [] }

/-- 'reverielaw18.StackActs': WHATEVER THE INPUT: true; the input reads as it did. -/
def stackActsSpec : ChangeSpec := { name := "stackActs", fn := fun _ => fun
  | [d1, d2] => { results := [.lit (.bool true)], args := [d1, d2] }
  | _ => none }
def stackActsRow : OpenClaim := { program := "ythbojmoiimknhaa", sum := "d1c07dc1348e937c9d54c6a318b05b12af6600f189c0a1d23ebddf7ba0962366", func := "reverie/reverielaw18.StackActs", spec := "stackActs", unfollowed := true, recurses := true, apart := false }
def StackActsSaid : Prop := stackActsRow.holds Try.pinned (OpenSpec.ofChange stackActsSpec)

/-- ITS FALSE NEIGHBOUR: 'it returns false'. Refute it at one input. -/
def stackActsWrong : ChangeSpec := { name := "stackActs", fn := fun _ => fun
  | [d1, d2] => { results := [.lit (.bool false)], args := [d1, d2] }
  | _ => none }
def StackActsWrongFalsely : Prop := stackActsRow.holds Try.pinned (OpenSpec.ofChange stackActsWrong)

/-- 'reverielaw18.StackNil': WHATEVER THE INPUT: true; the input reads as it did. -/
def stackNilSpec : ChangeSpec := { name := "stackNil", fn := fun _ => fun
  | [d] => { results := [.lit (.bool true)], args := [d] }
  | _ => none }
def stackNilRow : OpenClaim := { program := "ythbojmoiimknhaa", sum := "d1c07dc1348e937c9d54c6a318b05b12af6600f189c0a1d23ebddf7ba0962366", func := "reverie/reverielaw18.StackNil", spec := "stackNil", unfollowed := true, recurses := true, apart := false }
def StackNilSaid : Prop := stackNilRow.holds Try.pinned (OpenSpec.ofChange stackNilSpec)

/-- ITS FALSE NEIGHBOUR: 'it returns false'. Refute it at one input. -/
def stackNilWrong : ChangeSpec := { name := "stackNil", fn := fun _ => fun
  | [d] => { results := [.lit (.bool false)], args := [d] }
  | _ => none }
def StackNilWrongFalsely : Prop := stackNilRow.holds Try.pinned (OpenSpec.ofChange stackNilWrong)

/-- 'reverielaw18.StackMaps': WHATEVER THE INPUT: true; the input reads as it did. -/
def stackMapsSpec : ChangeSpec := { name := "stackMaps", fn := fun _ => fun
  | [d1, d2] => { results := [.lit (.bool true)], args := [d1, d2] }
  | _ => none }
def stackMapsRow : OpenClaim := { program := "ythbojmoiimknhaa", sum := "d1c07dc1348e937c9d54c6a318b05b12af6600f189c0a1d23ebddf7ba0962366", func := "reverie/reverielaw18.StackMaps", spec := "stackMaps", unfollowed := true, recurses := true, apart := false }
def StackMapsSaid : Prop := stackMapsRow.holds Try.pinned (OpenSpec.ofChange stackMapsSpec)

/-- ITS FALSE NEIGHBOUR: 'it returns false'. Refute it at one input. -/
def stackMapsWrong : ChangeSpec := { name := "stackMaps", fn := fun _ => fun
  | [d1, d2] => { results := [.lit (.bool false)], args := [d1, d2] }
  | _ => none }
def StackMapsWrongFalsely : Prop := stackMapsRow.holds Try.pinned (OpenSpec.ofChange stackMapsWrong)

/-- 'reverielaw05.OrderGroups': WHATEVER THE INPUT: true; the input reads as it did. -/
def orderGroupsSpec : ChangeSpec := { name := "orderGroups", fn := fun _ => fun
  | [d] => { results := [.lit (.bool true)], args := [d] }
  | _ => none }
def orderGroupsRow : OpenClaim := { program := "ythbojmoiimknhaa", sum := "d1c07dc1348e937c9d54c6a318b05b12af6600f189c0a1d23ebddf7ba0962366", func := "reverie/reverielaw05.OrderGroups", spec := "orderGroups", unfollowed := true, recurses := true, apart := false }
def OrderGroupsSaid : Prop := orderGroupsRow.holds Try.pinned (OpenSpec.ofChange orderGroupsSpec)

/-- ITS FALSE NEIGHBOUR: 'it returns false'. Refute it at one input. -/
def orderGroupsWrong : ChangeSpec := { name := "orderGroups", fn := fun _ => fun
  | [d] => { results := [.lit (.bool false)], args := [d] }
  | _ => none }
def OrderGroupsWrongFalsely : Prop := orderGroupsRow.holds Try.pinned (OpenSpec.ofChange orderGroupsWrong)

/-- 'reverielaw05.OrderEach': WHATEVER THE INPUT: true; the input reads as it did. -/
def orderEachSpec : ChangeSpec := { name := "orderEach", fn := fun _ => fun
  | [d] => { results := [.lit (.bool true)], args := [d] }
  | _ => none }
def orderEachRow : OpenClaim := { program := "ythbojmoiimknhaa", sum := "d1c07dc1348e937c9d54c6a318b05b12af6600f189c0a1d23ebddf7ba0962366", func := "reverie/reverielaw05.OrderEach", spec := "orderEach", unfollowed := true, recurses := true, apart := false }
def OrderEachSaid : Prop := orderEachRow.holds Try.pinned (OpenSpec.ofChange orderEachSpec)

/-- ITS FALSE NEIGHBOUR: 'it returns false'. Refute it at one input. -/
def orderEachWrong : ChangeSpec := { name := "orderEach", fn := fun _ => fun
  | [d] => { results := [.lit (.bool false)], args := [d] }
  | _ => none }
def OrderEachWrongFalsely : Prop := orderEachRow.holds Try.pinned (OpenSpec.ofChange orderEachWrong)

/-- 'reverielaw05.OrderTurned': WHATEVER THE INPUT: true; the input reads as it did. -/
def orderTurnedSpec : ChangeSpec := { name := "orderTurned", fn := fun _ => fun
  | [d] => { results := [.lit (.bool true)], args := [d] }
  | _ => none }
def orderTurnedRow : OpenClaim := { program := "ythbojmoiimknhaa", sum := "d1c07dc1348e937c9d54c6a318b05b12af6600f189c0a1d23ebddf7ba0962366", func := "reverie/reverielaw05.OrderTurned", spec := "orderTurned", unfollowed := true, recurses := true, apart := false }
def OrderTurnedSaid : Prop := orderTurnedRow.holds Try.pinned (OpenSpec.ofChange orderTurnedSpec)

/-- ITS FALSE NEIGHBOUR: 'it returns false'. Refute it at one input. -/
def orderTurnedWrong : ChangeSpec := { name := "orderTurned", fn := fun _ => fun
  | [d] => { results := [.lit (.bool false)], args := [d] }
  | _ => none }
def OrderTurnedWrongFalsely : Prop := orderTurnedRow.holds Try.pinned (OpenSpec.ofChange orderTurnedWrong)

/-- 'reverielaw05.OrderRings': WHATEVER THE INPUT: true; the input reads as it did. -/
def orderRingsSpec : ChangeSpec := { name := "orderRings", fn := fun _ => fun
  | [d] => { results := [.lit (.bool true)], args := [d] }
  | _ => none }
def orderRingsRow : OpenClaim := { program := "ythbojmoiimknhaa", sum := "d1c07dc1348e937c9d54c6a318b05b12af6600f189c0a1d23ebddf7ba0962366", func := "reverie/reverielaw05.OrderRings", spec := "orderRings", unfollowed := true, recurses := true, apart := false }
def OrderRingsSaid : Prop := orderRingsRow.holds Try.pinned (OpenSpec.ofChange orderRingsSpec)

/-- ITS FALSE NEIGHBOUR: 'it returns false'. Refute it at one input. -/
def orderRingsWrong : ChangeSpec := { name := "orderRings", fn := fun _ => fun
  | [d] => { results := [.lit (.bool false)], args := [d] }
  | _ => none }
def OrderRingsWrongFalsely : Prop := orderRingsRow.holds Try.pinned (OpenSpec.ofChange orderRingsWrong)

/-- 'reverielaw05.OrderLone': WHATEVER THE INPUT: true; the input reads as it did. -/
def orderLoneSpec : ChangeSpec := { name := "orderLone", fn := fun _ => fun
  | [d] => { results := [.lit (.bool true)], args := [d] }
  | _ => none }
def orderLoneRow : OpenClaim := { program := "ythbojmoiimknhaa", sum := "d1c07dc1348e937c9d54c6a318b05b12af6600f189c0a1d23ebddf7ba0962366", func := "reverie/reverielaw05.OrderLone", spec := "orderLone", unfollowed := true, recurses := true, apart := false }
def OrderLoneSaid : Prop := orderLoneRow.holds Try.pinned (OpenSpec.ofChange orderLoneSpec)

/-- ITS FALSE NEIGHBOUR: 'it returns false'. Refute it at one input. -/
def orderLoneWrong : ChangeSpec := { name := "orderLone", fn := fun _ => fun
  | [d] => { results := [.lit (.bool false)], args := [d] }
  | _ => none }
def OrderLoneWrongFalsely : Prop := orderLoneRow.holds Try.pinned (OpenSpec.ofChange orderLoneWrong)

/-- 'reverielaw05.OrderOnce': WHATEVER THE INPUT: true; the input reads as it did. -/
def orderOnceSpec : ChangeSpec := { name := "orderOnce", fn := fun _ => fun
  | [d1, d2] => { results := [.lit (.bool true)], args := [d1, d2] }
  | _ => none }
def orderOnceRow : OpenClaim := { program := "ythbojmoiimknhaa", sum := "d1c07dc1348e937c9d54c6a318b05b12af6600f189c0a1d23ebddf7ba0962366", func := "reverie/reverielaw05.OrderOnce", spec := "orderOnce", unfollowed := true, recurses := true, apart := false }
def OrderOnceSaid : Prop := orderOnceRow.holds Try.pinned (OpenSpec.ofChange orderOnceSpec)

/-- ITS FALSE NEIGHBOUR: 'it returns false'. Refute it at one input. -/
def orderOnceWrong : ChangeSpec := { name := "orderOnce", fn := fun _ => fun
  | [d1, d2] => { results := [.lit (.bool false)], args := [d1, d2] }
  | _ => none }
def OrderOnceWrongFalsely : Prop := orderOnceRow.holds Try.pinned (OpenSpec.ofChange orderOnceWrong)

/- THE SECOND FORM. 'bulk': how many values and letters a reading holds, each counted each time it is reached (what is shared counts as often as it is met; a slice's spare places count too). A statement '..UptoSaid' is the law's where the arguments, and the package variables that the reading takes, are together of bulk at most 1048576: NARROWER than '..Said'. Prove '..Said' where nothing that the law and all that it calls make is longer than what came in: it says more and counts as full. Else prove '..UptoSaid'. A law counts once. -/
mutual
def uptoBulk {H : Type} : DataW H → Nat
  | .lit (.string bytes) => bytes.length + 1
  | .lit _ => 1
  | .nil => 1
  | .ptr d => uptoBulk d + 1
  | .slice elems spare => uptoBulkAll elems + uptoBulkAll spare + 1
  | .agg parts => uptoBulkAll parts + 1
  | .iface _ d => uptoBulk d + 1
  | .map entries => uptoBulkEntries entries + 1
  | .held _ => 1
def uptoBulkAll {H : Type} : List (DataW H) → Nat
  | [] => 0
  | d :: r => uptoBulk d + uptoBulkAll r
def uptoBulkEntries {H : Type} : List (Lit × DataW H) → Nat
  | [] => 0
  | x :: r => uptoBulkEntry x + uptoBulkEntries r
def uptoBulkEntry {H : Type} : Lit × DataW H → Nat
  | (.string bytes, d) => bytes.length + uptoBulk d + 1
  | (_, d) => uptoBulk d + 1
 end
def uptoSmall : (H : Type) → List (DataW H) → Bool := fun _ ds => decide (uptoBulkAll ds ≤ 1048576)
def OpenSpec.upto (s : _root_.Go.ChangeSpec) : _root_.Go.OpenSpec := { _root_.Go.OpenSpec.ofChange s with cond := some uptoSmall }

/-- 'reverielaw18.StackActs', WHERE WHAT IT READS IS OF BULK AT MOST 1048576: true; the input reads as it did. -/
def stackActsUptoRow : OpenClaim := { program := "ythbojmoiimknhaa", sum := "d1c07dc1348e937c9d54c6a318b05b12af6600f189c0a1d23ebddf7ba0962366", func := "reverie/reverielaw18.StackActs", spec := "stackActs", unfollowed := true, recurses := true, apart := false, narrowed := true }
def StackActsUptoSaid : Prop := stackActsUptoRow.holds Try.pinned (OpenSpec.upto stackActsSpec)

/-- 'reverielaw18.StackNil', WHERE WHAT IT READS IS OF BULK AT MOST 1048576: true; the input reads as it did. -/
def stackNilUptoRow : OpenClaim := { program := "ythbojmoiimknhaa", sum := "d1c07dc1348e937c9d54c6a318b05b12af6600f189c0a1d23ebddf7ba0962366", func := "reverie/reverielaw18.StackNil", spec := "stackNil", unfollowed := true, recurses := true, apart := false, narrowed := true }
def StackNilUptoSaid : Prop := stackNilUptoRow.holds Try.pinned (OpenSpec.upto stackNilSpec)

/-- 'reverielaw18.StackMaps', WHERE WHAT IT READS IS OF BULK AT MOST 1048576: true; the input reads as it did. -/
def stackMapsUptoRow : OpenClaim := { program := "ythbojmoiimknhaa", sum := "d1c07dc1348e937c9d54c6a318b05b12af6600f189c0a1d23ebddf7ba0962366", func := "reverie/reverielaw18.StackMaps", spec := "stackMaps", unfollowed := true, recurses := true, apart := false, narrowed := true }
def StackMapsUptoSaid : Prop := stackMapsUptoRow.holds Try.pinned (OpenSpec.upto stackMapsSpec)

/-- 'reverielaw05.OrderGroups', WHERE WHAT IT READS IS OF BULK AT MOST 1048576: true; the input reads as it did. -/
def orderGroupsUptoRow : OpenClaim := { program := "ythbojmoiimknhaa", sum := "d1c07dc1348e937c9d54c6a318b05b12af6600f189c0a1d23ebddf7ba0962366", func := "reverie/reverielaw05.OrderGroups", spec := "orderGroups", unfollowed := true, recurses := true, apart := false, narrowed := true }
def OrderGroupsUptoSaid : Prop := orderGroupsUptoRow.holds Try.pinned (OpenSpec.upto orderGroupsSpec)

/-- 'reverielaw05.OrderEach', WHERE WHAT IT READS IS OF BULK AT MOST 1048576: true; the input reads as it did. -/
def orderEachUptoRow : OpenClaim := { program := "ythbojmoiimknhaa", sum := "d1c07dc1348e937c9d54c6a318b05b12af6600f189c0a1d23ebddf7ba0962366", func := "reverie/reverielaw05.OrderEach", spec := "orderEach", unfollowed := true, recurses := true, apart := false, narrowed := true }
def OrderEachUptoSaid : Prop := orderEachUptoRow.holds Try.pinned (OpenSpec.upto orderEachSpec)

/-- 'reverielaw05.OrderTurned', WHERE WHAT IT READS IS OF BULK AT MOST 1048576: true; the input reads as it did. -/
def orderTurnedUptoRow : OpenClaim := { program := "ythbojmoiimknhaa", sum := "d1c07dc1348e937c9d54c6a318b05b12af6600f189c0a1d23ebddf7ba0962366", func := "reverie/reverielaw05.OrderTurned", spec := "orderTurned", unfollowed := true, recurses := true, apart := false, narrowed := true }
def OrderTurnedUptoSaid : Prop := orderTurnedUptoRow.holds Try.pinned (OpenSpec.upto orderTurnedSpec)

/-- 'reverielaw05.OrderRings', WHERE WHAT IT READS IS OF BULK AT MOST 1048576: true; the input reads as it did. -/
def orderRingsUptoRow : OpenClaim := { program := "ythbojmoiimknhaa", sum := "d1c07dc1348e937c9d54c6a318b05b12af6600f189c0a1d23ebddf7ba0962366", func := "reverie/reverielaw05.OrderRings", spec := "orderRings", unfollowed := true, recurses := true, apart := false, narrowed := true }
def OrderRingsUptoSaid : Prop := orderRingsUptoRow.holds Try.pinned (OpenSpec.upto orderRingsSpec)

/-- 'reverielaw05.OrderLone', WHERE WHAT IT READS IS OF BULK AT MOST 1048576: true; the input reads as it did. -/
def orderLoneUptoRow : OpenClaim := { program := "ythbojmoiimknhaa", sum := "d1c07dc1348e937c9d54c6a318b05b12af6600f189c0a1d23ebddf7ba0962366", func := "reverie/reverielaw05.OrderLone", spec := "orderLone", unfollowed := true, recurses := true, apart := false, narrowed := true }
def OrderLoneUptoSaid : Prop := orderLoneUptoRow.holds Try.pinned (OpenSpec.upto orderLoneSpec)

/-- 'reverielaw05.OrderOnce', WHERE WHAT IT READS IS OF BULK AT MOST 1048576: true; the input reads as it did. -/
def orderOnceUptoRow : OpenClaim := { program := "ythbojmoiimknhaa", sum := "d1c07dc1348e937c9d54c6a318b05b12af6600f189c0a1d23ebddf7ba0962366", func := "reverie/reverielaw05.OrderOnce", spec := "orderOnce", unfollowed := true, recurses := true, apart := false, narrowed := true }
def OrderOnceUptoSaid : Prop := orderOnceUptoRow.holds Try.pinned (OpenSpec.upto orderOnceSpec)

end Rows
end Go.Proofs.Ythbojmoiimknhaa

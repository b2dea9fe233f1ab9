/-
  No cell of these rows narrows 'for every input' (looked for: loops, veiled, ifaces, maps, wideKeys, modest, calm, conditions, laid).
  DERIVED. THE GIVEN ROWS OF THIS SEAT. 6 by the template 'for every input the law returns true; each argument reads behind the call as it read before'; 0 by the template 'total and deterministic' (their statements: YtmaaniogcmlfbaaTotals.lean).
  GIVEN WITH THE SEED: the statements are not yours to turn. If you find one false, say at which input.
  Laid BY PROGRAM, IN A SANDBOX (cutbox-rows.mjs): the forced cells as the released guide's own fill.sh prints them over the translation 70c15c4503bdbbcc… (all of the seat's roots in one cut). By AI agents, Wed Nov 11 2026. No macro, syntax, notation, axiom, sorry.
-/
import Derived.Test.YtmaaniogcmlfbaaChecked
import GoSem.Claim
import GoSem.ClaimJoined
import GoSem.ClaimMapViews
import Derived.JoinedTies
import Derived.KernelRfl
namespace Go.Proofs.Ytmaaniogcmlfbaa
/- THE CELL 'sum', in the pinned program and in every row, IS THE sha256 OF THE DUMP (.gsa) THAT YtmaaniogcmlfbaaProg.lean LOADS. Nothing in Lean hashes anything: it is a label: what it is worth is what the hold of that sum in a sandbox is worth. -/
noncomputable def Try.pinned : Pinned := { name := "ytmaaniogcmlfbaa", sum := "70c15c4503bdbbcc76a0de232c3cc168a98f7562782e8386fa4a8c129b82184b", checked := Try.checked }
namespace Rows
def none {H : Type} : Left H := { results := [], args := [] }

/-- 'attestorlaw30.NetworkConservation': WHATEVER THE INPUT: true; the input reads as it did. -/
def networkConservationSpec : ChangeSpec := { name := "networkConservation", fn := fun _ => fun
  | [d] => { results := [.lit (.bool true)], args := [d] }
  | _ => none }
def networkConservationRow : OpenClaim := { program := "ytmaaniogcmlfbaa", sum := "70c15c4503bdbbcc76a0de232c3cc168a98f7562782e8386fa4a8c129b82184b", func := "attestor/attestorlaw30.NetworkConservation", spec := "networkConservation", unfollowed := true, recurses := true, apart := false }
def NetworkConservationSaid : Prop := networkConservationRow.holds Try.pinned (OpenSpec.ofChange networkConservationSpec)

/-- ITS FALSE NEIGHBOUR: 'it returns false'. Refute it at one input. -/
def networkConservationWrong : ChangeSpec := { name := "networkConservation", fn := fun _ => fun
  | [d] => { results := [.lit (.bool false)], args := [d] }
  | _ => none }
def NetworkConservationWrongFalsely : Prop := networkConservationRow.holds Try.pinned (OpenSpec.ofChange networkConservationWrong)

/-- 'attestorlaw30.NetworkIntegrity': WHATEVER THE INPUT: true; the input reads as it did. -/
def networkIntegritySpec : ChangeSpec := { name := "networkIntegrity", fn := fun _ => fun
  | [d] => { results := [.lit (.bool true)], args := [d] }
  | _ => none }
def networkIntegrityRow : OpenClaim := { program := "ytmaaniogcmlfbaa", sum := "70c15c4503bdbbcc76a0de232c3cc168a98f7562782e8386fa4a8c129b82184b", func := "attestor/attestorlaw30.NetworkIntegrity", spec := "networkIntegrity", unfollowed := true, recurses := true, apart := false }
def NetworkIntegritySaid : Prop := networkIntegrityRow.holds Try.pinned (OpenSpec.ofChange networkIntegritySpec)

/-- ITS FALSE NEIGHBOUR: 'it returns false'. Refute it at one input. -/
def networkIntegrityWrong : ChangeSpec := { name := "networkIntegrity", fn := fun _ => fun
  | [d] => { results := [.lit (.bool false)], args := [d] }
  | _ => none }
def NetworkIntegrityWrongFalsely : Prop := networkIntegrityRow.holds Try.pinned (OpenSpec.ofChange networkIntegrityWrong)

/-- 'attestorlaw30.NetworkDelay': WHATEVER THE INPUT: true; the input reads as it did. -/
def networkDelaySpec : ChangeSpec := { name := "networkDelay", fn := fun _ => fun
  | [d] => { results := [.lit (.bool true)], args := [d] }
  | _ => none }
def networkDelayRow : OpenClaim := { program := "ytmaaniogcmlfbaa", sum := "70c15c4503bdbbcc76a0de232c3cc168a98f7562782e8386fa4a8c129b82184b", func := "attestor/attestorlaw30.NetworkDelay", spec := "networkDelay", unfollowed := true, recurses := true, apart := false }
def NetworkDelaySaid : Prop := networkDelayRow.holds Try.pinned (OpenSpec.ofChange networkDelaySpec)

/-- ITS FALSE NEIGHBOUR: 'it returns false'. Refute it at one input. -/
def networkDelayWrong : ChangeSpec := { name := "networkDelay", fn := fun _ => fun
  | [d] => { results := [.lit (.bool false)], args := [d] }
  | _ => none }
def NetworkDelayWrongFalsely : Prop := networkDelayRow.holds Try.pinned (OpenSpec.ofChange networkDelayWrong)

/-- 'attestorlaw30.NetworkCapacity': WHATEVER THE INPUT: true; the input reads as it did. -/
def networkCapacitySpec : ChangeSpec := { name := "networkCapacity", fn := fun _ => fun
  | [d1, d2] => { results := [.lit (.bool true)], args := [d1, d2] }
  | _ => none }
def networkCapacityRow : OpenClaim := { program := "ytmaaniogcmlfbaa", sum := "70c15c4503bdbbcc76a0de232c3cc168a98f7562782e8386fa4a8c129b82184b", func := "attestor/attestorlaw30.NetworkCapacity", spec := "networkCapacity", unfollowed := true, recurses := true, apart := false }
def NetworkCapacitySaid : Prop := networkCapacityRow.holds Try.pinned (OpenSpec.ofChange networkCapacitySpec)

/-- ITS FALSE NEIGHBOUR: 'it returns false'. Refute it at one input. -/
def networkCapacityWrong : ChangeSpec := { name := "networkCapacity", fn := fun _ => fun
  | [d1, d2] => { results := [.lit (.bool false)], args := [d1, d2] }
  | _ => none }
def NetworkCapacityWrongFalsely : Prop := networkCapacityRow.holds Try.pinned (OpenSpec.ofChange networkCapacityWrong)

/-- 'attestorlaw30.NetworkMatchesReference': WHATEVER THE INPUT: true; the input reads as it did. -/
def networkMatchesReferenceSpec : ChangeSpec := { name := "networkMatchesReference", fn := fun _ => fun
  | [d1, d2] => { results := [.lit (.bool true)], args := [d1, d2] }
  | _ => none }
def networkMatchesReferenceRow : OpenClaim := { program := "ytmaaniogcmlfbaa", sum := "70c15c4503bdbbcc76a0de232c3cc168a98f7562782e8386fa4a8c129b82184b", func := "attestor/attestorlaw30.NetworkMatchesReference", spec := "networkMatchesReference", unfollowed := true, recurses := true, apart := false }
def NetworkMatchesReferenceSaid : Prop := networkMatchesReferenceRow.holds Try.pinned (OpenSpec.ofChange networkMatchesReferenceSpec)

/-- ITS FALSE NEIGHBOUR: 'it returns false'. Refute it at one input. -/
def networkMatchesReferenceWrong : ChangeSpec := { name := "networkMatchesReference", fn := fun _ => fun
  | [d1, d2] => { results := [.lit (.bool false)], args := [d1, d2] }
  | _ => none }
def NetworkMatchesReferenceWrongFalsely : Prop := networkMatchesReferenceRow.holds Try.pinned (OpenSpec.ofChange networkMatchesReferenceWrong)

/-- 'attestorlaw30.NetworkComposition': WHATEVER THE INPUT: true; the input reads as it did. -/
def networkCompositionSpec : ChangeSpec := { name := "networkComposition", fn := fun _ => fun
  | [d1, d2, d3] => { results := [.lit (.bool true)], args := [d1, d2, d3] }
  | _ => none }
def networkCompositionRow : OpenClaim := { program := "ytmaaniogcmlfbaa", sum := "70c15c4503bdbbcc76a0de232c3cc168a98f7562782e8386fa4a8c129b82184b", func := "attestor/attestorlaw30.NetworkComposition", spec := "networkComposition", unfollowed := true, recurses := true, apart := false }
def NetworkCompositionSaid : Prop := networkCompositionRow.holds Try.pinned (OpenSpec.ofChange networkCompositionSpec)

/-- ITS FALSE NEIGHBOUR: 'it returns false'. Refute it at one input. -/
def networkCompositionWrong : ChangeSpec := { name := "networkComposition", fn := fun _ => fun
  | [d1, d2, d3] => { results := [.lit (.bool false)], args := [d1, d2, d3] }
  | _ => none }
def NetworkCompositionWrongFalsely : Prop := networkCompositionRow.holds Try.pinned (OpenSpec.ofChange networkCompositionWrong)

/- THE SECOND FORM. 'bulk': how many values and letters a reading holds, each counted each time it is reached (what is shared counts as often as it is met; a slice's spare places count too). A statement '..UptoSaid' is the law's where the arguments, and the package variables that the reading takes, are together of bulk at most 1048576: NARROWER than '..Said'. Prove '..Said' where nothing that the law and all that it calls make is longer than what came in: it says more and counts as full. Else prove '..UptoSaid'. A law counts once. -/
mutual
def uptoBulk {H : Type} : DataW H → Nat
  | .lit (.string bytes) => bytes.length + 1
  | .lit _ => 1
  | .nil => 1
  | .ptr d => uptoBulk d + 1
  | .slice elems spare => uptoBulkAll elems + uptoBulkAll spare + 1
  | .agg parts => uptoBulkAll parts + 1
  | .iface _ d => uptoBulk d + 1
  | .map entries => uptoBulkEntries entries + 1
  | .held _ => 1
def uptoBulkAll {H : Type} : List (DataW H) → Nat
  | [] => 0
  | d :: r => uptoBulk d + uptoBulkAll r
def uptoBulkEntries {H : Type} : List (Lit × DataW H) → Nat
  | [] => 0
  | x :: r => uptoBulkEntry x + uptoBulkEntries r
def uptoBulkEntry {H : Type} : Lit × DataW H → Nat
  | (.string bytes, d) => bytes.length + uptoBulk d + 1
  | (_, d) => uptoBulk d + 1
 end
def uptoSmall : (H : Type) → List (DataW H) → Bool := fun _ ds => decide (uptoBulkAll ds ≤ 1048576)
def OpenSpec.upto (s : _root_.Go.ChangeSpec) : _root_.Go.OpenSpec := { _root_.Go.OpenSpec.ofChange s with cond := some uptoSmall }

/-- 'attestorlaw30.NetworkConservation', WHERE WHAT IT READS IS OF BULK AT MOST 1048576: true; the input reads as it did. -/
def networkConservationUptoRow : OpenClaim := { program := "ytmaaniogcmlfbaa", sum := "70c15c4503bdbbcc76a0de232c3cc168a98f7562782e8386fa4a8c129b82184b", func := "attestor/attestorlaw30.NetworkConservation", spec := "networkConservation", unfollowed := true, recurses := true, apart := false, narrowed := true }
def NetworkConservationUptoSaid : Prop := networkConservationUptoRow.holds Try.pinned (OpenSpec.upto networkConservationSpec)

/-- 'attestorlaw30.NetworkIntegrity', WHERE WHAT IT READS IS OF BULK AT MOST 1048576: true; the input reads as it did. -/
def networkIntegrityUptoRow : OpenClaim := { program := "ytmaaniogcmlfbaa", sum := "70c15c4503bdbbcc76a0de232c3cc168a98f7562782e8386fa4a8c129b82184b", func := "attestor/attestorlaw30.NetworkIntegrity", spec := "networkIntegrity", unfollowed := true, recurses := true, apart := false, narrowed := true }
def NetworkIntegrityUptoSaid : Prop := networkIntegrityUptoRow.holds Try.pinned (OpenSpec.upto networkIntegritySpec)

/-- 'attestorlaw30.NetworkDelay', WHERE WHAT IT READS IS OF BULK AT MOST 1048576: true; the input reads as it did. -/
def networkDelayUptoRow : OpenClaim := { program := "ytmaaniogcmlfbaa", sum := "70c15c4503bdbbcc76a0de232c3cc168a98f7562782e8386fa4a8c129b82184b", func := "attestor/attestorlaw30.NetworkDelay", spec := "networkDelay", unfollowed := true, recurses := true, apart := false, narrowed := true }
def NetworkDelayUptoSaid : Prop := networkDelayUptoRow.holds Try.pinned (OpenSpec.upto networkDelaySpec)

/-- 'attestorlaw30.NetworkCapacity', WHERE WHAT IT READS IS OF BULK AT MOST 1048576: true; the input reads as it did. -/
def networkCapacityUptoRow : OpenClaim := { program := "ytmaaniogcmlfbaa", sum := "70c15c4503bdbbcc76a0de232c3cc168a98f7562782e8386fa4a8c129b82184b", func := "attestor/attestorlaw30.NetworkCapacity", spec := "networkCapacity", unfollowed := true, recurses := true, apart := false, narrowed := true }
def NetworkCapacityUptoSaid : Prop := networkCapacityUptoRow.holds Try.pinned (OpenSpec.upto networkCapacitySpec)

/-- 'attestorlaw30.NetworkMatchesReference', WHERE WHAT IT READS IS OF BULK AT MOST 1048576: true; the input reads as it did. -/
def networkMatchesReferenceUptoRow : OpenClaim := { program := "ytmaaniogcmlfbaa", sum := "70c15c4503bdbbcc76a0de232c3cc168a98f7562782e8386fa4a8c129b82184b", func := "attestor/attestorlaw30.NetworkMatchesReference", spec := "networkMatchesReference", unfollowed := true, recurses := true, apart := false, narrowed := true }
def NetworkMatchesReferenceUptoSaid : Prop := networkMatchesReferenceUptoRow.holds Try.pinned (OpenSpec.upto networkMatchesReferenceSpec)

/-- 'attestorlaw30.NetworkComposition', WHERE WHAT IT READS IS OF BULK AT MOST 1048576: true; the input reads as it did. -/
def networkCompositionUptoRow : OpenClaim := { program := "ytmaaniogcmlfbaa", sum := "70c15c4503bdbbcc76a0de232c3cc168a98f7562782e8386fa4a8c129b82184b", func := "attestor/attestorlaw30.NetworkComposition", spec := "networkComposition", unfollowed := true, recurses := true, apart := false, narrowed := true }
def NetworkCompositionUptoSaid : Prop := networkCompositionUptoRow.holds Try.pinned (OpenSpec.upto networkCompositionSpec)

end Rows
end Go.Proofs.Ytmaaniogcmlfbaa

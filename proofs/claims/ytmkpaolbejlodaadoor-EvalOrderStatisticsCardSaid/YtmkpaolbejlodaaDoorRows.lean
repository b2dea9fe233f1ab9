/-
  NARROWER THAN 'FOR EVERY INPUT', by the rows' own cells (each row's printed sentence says how): EvalMatchesReference: laid · EvalAdditive: laid · EvalRetraction: laid · EvalOrderStatistics: laid · EvalPairsAreCounted: laid · EvalMoments: laid · EvalFilters: laid.
  DERIVED. THE GIVEN ROWS OF THIS SEAT. 7 by the template 'for every input the law returns true; each argument reads behind the call as it read before'; 0 by the template 'total and deterministic' (their statements: YtmkpaolbejlodaaDoorTotals.lean).
  GIVEN WITH THE SEED: the statements are not yours to turn. If you find one false, say at which input.
  Laid BY PROGRAM, IN A SANDBOX (cutbox-rows.mjs): the forced cells as the released guide's own fill.sh prints them over the translation 6c98584cb0c3cbbe… (all of the seat's roots in one cut). By AI agents, Wed Nov 11 2026. No macro, syntax, notation, axiom, sorry.
-/
import Derived.Test.YtmkpaolbejlodaaDoorChecked
import GoSem.Claim
import GoSem.ClaimJoined
import GoSem.ClaimMapViews
import Derived.JoinedTies
import Derived.KernelRfl
namespace Go.Proofs.YtmkpaolbejlodaaDoor
/- THE CELL 'sum', in the pinned program and in every row, IS THE sha256 OF THE DUMP (.gsa) THAT YtmkpaolbejlodaaDoorProg.lean LOADS. Nothing in Lean hashes anything: it is a label: what it is worth is what the hold of that sum in a sandbox is worth. -/
noncomputable def Tryd.pinned : Pinned := { name := "ytmkpaolbejlodaadoor", sum := "6c98584cb0c3cbbea5bf929cd34ab21a4c5027b587718182a1dcfe4c74e63a0a", checked := Tryd.checked }
namespace Rows
def none {H : Type} : Left H := { results := [], args := [] }

/- WHAT THE LISTED PACKAGE-LEVEL VARIABLES READ AS WHEN THE CALL BEGINS. Each datum BY PROGRAM (the guide's laid-datum.mjs) off the statement by which the dump's own 'gosem.cut.vars' lays the variable. In a bare row this is a premise. The card (YtmkpaolbejlodaaDoorCards.lean) ties it to the program's text. -/
def laid_attestor_typecheck_widths {H : Type} : DataW H := .map [(.int .i64 0, .lit (.int .i64 4)), (.int .i64 1, .lit (.int .i64 8)), (.int .i64 2, .lit (.int .i64 4)), (.int .i64 3, .lit (.int .i64 8)), (.int .i64 4, .lit (.int .i64 1))]

/-- 'attestorlaw15.EvalMatchesReference': WHATEVER THE INPUT: true; the input reads as it did. -/
def evalMatchesReferenceSpec : ChangeSpec := { name := "evalMatchesReference", fn := fun _ => fun
  | [d1, d2] => { results := [.lit (.bool true)], args := [d1, d2] }
  | _ => none }
def evalMatchesReferenceRow : OpenClaim := { program := "ytmkpaolbejlodaadoor", sum := "6c98584cb0c3cbbea5bf929cd34ab21a4c5027b587718182a1dcfe4c74e63a0a", func := "attestor/attestorlaw15.EvalMatchesReference", spec := "evalMatchesReference", unfollowed := true, recurses := true, named := ["attestor/typecheck.widths"], apart := false, laid := [("attestor/typecheck.widths", laid_attestor_typecheck_widths)] }
def EvalMatchesReferenceSaid : Prop := evalMatchesReferenceRow.holds Tryd.pinned (OpenSpec.ofChange evalMatchesReferenceSpec)

/-- ITS FALSE NEIGHBOUR: 'it returns false'. Refute it at one input. -/
def evalMatchesReferenceWrong : ChangeSpec := { name := "evalMatchesReference", fn := fun _ => fun
  | [d1, d2] => { results := [.lit (.bool false)], args := [d1, d2] }
  | _ => none }
def EvalMatchesReferenceWrongFalsely : Prop := evalMatchesReferenceRow.holds Tryd.pinned (OpenSpec.ofChange evalMatchesReferenceWrong)

/-- 'attestorlaw15.EvalAdditive': WHATEVER THE INPUT: true; the input reads as it did. -/
def evalAdditiveSpec : ChangeSpec := { name := "evalAdditive", fn := fun _ => fun
  | [d1, d2, d3] => { results := [.lit (.bool true)], args := [d1, d2, d3] }
  | _ => none }
def evalAdditiveRow : OpenClaim := { program := "ytmkpaolbejlodaadoor", sum := "6c98584cb0c3cbbea5bf929cd34ab21a4c5027b587718182a1dcfe4c74e63a0a", func := "attestor/attestorlaw15.EvalAdditive", spec := "evalAdditive", unfollowed := true, recurses := true, named := ["attestor/typecheck.widths"], apart := false, laid := [("attestor/typecheck.widths", laid_attestor_typecheck_widths)] }
def EvalAdditiveSaid : Prop := evalAdditiveRow.holds Tryd.pinned (OpenSpec.ofChange evalAdditiveSpec)

/-- ITS FALSE NEIGHBOUR: 'it returns false'. Refute it at one input. -/
def evalAdditiveWrong : ChangeSpec := { name := "evalAdditive", fn := fun _ => fun
  | [d1, d2, d3] => { results := [.lit (.bool false)], args := [d1, d2, d3] }
  | _ => none }
def EvalAdditiveWrongFalsely : Prop := evalAdditiveRow.holds Tryd.pinned (OpenSpec.ofChange evalAdditiveWrong)

/-- 'attestorlaw15.EvalRetraction': WHATEVER THE INPUT: true; the input reads as it did. -/
def evalRetractionSpec : ChangeSpec := { name := "evalRetraction", fn := fun _ => fun
  | [d1, d2, d3] => { results := [.lit (.bool true)], args := [d1, d2, d3] }
  | _ => none }
def evalRetractionRow : OpenClaim := { program := "ytmkpaolbejlodaadoor", sum := "6c98584cb0c3cbbea5bf929cd34ab21a4c5027b587718182a1dcfe4c74e63a0a", func := "attestor/attestorlaw15.EvalRetraction", spec := "evalRetraction", unfollowed := true, recurses := true, named := ["attestor/typecheck.widths"], apart := false, laid := [("attestor/typecheck.widths", laid_attestor_typecheck_widths)] }
def EvalRetractionSaid : Prop := evalRetractionRow.holds Tryd.pinned (OpenSpec.ofChange evalRetractionSpec)

/-- ITS FALSE NEIGHBOUR: 'it returns false'. Refute it at one input. -/
def evalRetractionWrong : ChangeSpec := { name := "evalRetraction", fn := fun _ => fun
  | [d1, d2, d3] => { results := [.lit (.bool false)], args := [d1, d2, d3] }
  | _ => none }
def EvalRetractionWrongFalsely : Prop := evalRetractionRow.holds Tryd.pinned (OpenSpec.ofChange evalRetractionWrong)

/-- 'attestorlaw15.EvalOrderStatistics': WHATEVER THE INPUT: true; the input reads as it did. -/
def evalOrderStatisticsSpec : ChangeSpec := { name := "evalOrderStatistics", fn := fun _ => fun
  | [d1, d2, d3, d4] => { results := [.lit (.bool true)], args := [d1, d2, d3, d4] }
  | _ => none }
def evalOrderStatisticsRow : OpenClaim := { program := "ytmkpaolbejlodaadoor", sum := "6c98584cb0c3cbbea5bf929cd34ab21a4c5027b587718182a1dcfe4c74e63a0a", func := "attestor/attestorlaw15.EvalOrderStatistics", spec := "evalOrderStatistics", unfollowed := true, recurses := true, named := ["attestor/typecheck.widths"], apart := false, laid := [("attestor/typecheck.widths", laid_attestor_typecheck_widths)] }
def EvalOrderStatisticsSaid : Prop := evalOrderStatisticsRow.holds Tryd.pinned (OpenSpec.ofChange evalOrderStatisticsSpec)

/-- ITS FALSE NEIGHBOUR: 'it returns false'. Refute it at one input. -/
def evalOrderStatisticsWrong : ChangeSpec := { name := "evalOrderStatistics", fn := fun _ => fun
  | [d1, d2, d3, d4] => { results := [.lit (.bool false)], args := [d1, d2, d3, d4] }
  | _ => none }
def EvalOrderStatisticsWrongFalsely : Prop := evalOrderStatisticsRow.holds Tryd.pinned (OpenSpec.ofChange evalOrderStatisticsWrong)

/-- 'attestorlaw15.EvalPairsAreCounted': WHATEVER THE INPUT: true; the input reads as it did. -/
def evalPairsAreCountedSpec : ChangeSpec := { name := "evalPairsAreCounted", fn := fun _ => fun
  | [d1, d2, d3] => { results := [.lit (.bool true)], args := [d1, d2, d3] }
  | _ => none }
def evalPairsAreCountedRow : OpenClaim := { program := "ytmkpaolbejlodaadoor", sum := "6c98584cb0c3cbbea5bf929cd34ab21a4c5027b587718182a1dcfe4c74e63a0a", func := "attestor/attestorlaw15.EvalPairsAreCounted", spec := "evalPairsAreCounted", unfollowed := true, recurses := true, named := ["attestor/typecheck.widths"], apart := false, laid := [("attestor/typecheck.widths", laid_attestor_typecheck_widths)] }
def EvalPairsAreCountedSaid : Prop := evalPairsAreCountedRow.holds Tryd.pinned (OpenSpec.ofChange evalPairsAreCountedSpec)

/-- ITS FALSE NEIGHBOUR: 'it returns false'. Refute it at one input. -/
def evalPairsAreCountedWrong : ChangeSpec := { name := "evalPairsAreCounted", fn := fun _ => fun
  | [d1, d2, d3] => { results := [.lit (.bool false)], args := [d1, d2, d3] }
  | _ => none }
def EvalPairsAreCountedWrongFalsely : Prop := evalPairsAreCountedRow.holds Tryd.pinned (OpenSpec.ofChange evalPairsAreCountedWrong)

/-- 'attestorlaw15.EvalMoments': WHATEVER THE INPUT: true; the input reads as it did. -/
def evalMomentsSpec : ChangeSpec := { name := "evalMoments", fn := fun _ => fun
  | [d1, d2, d3] => { results := [.lit (.bool true)], args := [d1, d2, d3] }
  | _ => none }
def evalMomentsRow : OpenClaim := { program := "ytmkpaolbejlodaadoor", sum := "6c98584cb0c3cbbea5bf929cd34ab21a4c5027b587718182a1dcfe4c74e63a0a", func := "attestor/attestorlaw15.EvalMoments", spec := "evalMoments", unfollowed := true, recurses := true, named := ["attestor/typecheck.widths"], apart := false, laid := [("attestor/typecheck.widths", laid_attestor_typecheck_widths)] }
def EvalMomentsSaid : Prop := evalMomentsRow.holds Tryd.pinned (OpenSpec.ofChange evalMomentsSpec)

/-- ITS FALSE NEIGHBOUR: 'it returns false'. Refute it at one input. -/
def evalMomentsWrong : ChangeSpec := { name := "evalMoments", fn := fun _ => fun
  | [d1, d2, d3] => { results := [.lit (.bool false)], args := [d1, d2, d3] }
  | _ => none }
def EvalMomentsWrongFalsely : Prop := evalMomentsRow.holds Tryd.pinned (OpenSpec.ofChange evalMomentsWrong)

/-- 'attestorlaw15.EvalFilters': WHATEVER THE INPUT: true; the input reads as it did. -/
def evalFiltersSpec : ChangeSpec := { name := "evalFilters", fn := fun _ => fun
  | [d1, d2, d3] => { results := [.lit (.bool true)], args := [d1, d2, d3] }
  | _ => none }
def evalFiltersRow : OpenClaim := { program := "ytmkpaolbejlodaadoor", sum := "6c98584cb0c3cbbea5bf929cd34ab21a4c5027b587718182a1dcfe4c74e63a0a", func := "attestor/attestorlaw15.EvalFilters", spec := "evalFilters", unfollowed := true, recurses := true, named := ["attestor/typecheck.widths"], apart := false, laid := [("attestor/typecheck.widths", laid_attestor_typecheck_widths)] }
def EvalFiltersSaid : Prop := evalFiltersRow.holds Tryd.pinned (OpenSpec.ofChange evalFiltersSpec)

/-- ITS FALSE NEIGHBOUR: 'it returns false'. Refute it at one input. -/
def evalFiltersWrong : ChangeSpec := { name := "evalFilters", fn := fun _ => fun
  | [d1, d2, d3] => { results := [.lit (.bool false)], args := [d1, d2, d3] }
  | _ => none }
def EvalFiltersWrongFalsely : Prop := evalFiltersRow.holds Tryd.pinned (OpenSpec.ofChange evalFiltersWrong)

/- THE SECOND FORM. 'bulk': how many values and letters a reading holds, each counted each time it is reached (what is shared counts as often as it is met; a slice's spare places count too). A statement '..UptoSaid' is the law's where the arguments, and the package variables that the reading takes, are together of bulk at most 1048576: NARROWER than '..Said'. Prove '..Said' where nothing that the law and all that it calls make is longer than what came in: it says more and counts as full. Else prove '..UptoSaid'. A law counts once. -/
mutual
def uptoBulk {H : Type} : DataW H → Nat
  | .lit (.string bytes) => bytes.length + 1
  | .lit _ => 1
  | .nil => 1
  | .ptr d => uptoBulk d + 1
  | .slice elems spare => uptoBulkAll elems + uptoBulkAll spare + 1
  | .agg parts => uptoBulkAll parts + 1
  | .iface _ d => uptoBulk d + 1
  | .map entries => uptoBulkEntries entries + 1
  | .held _ => 1
def uptoBulkAll {H : Type} : List (DataW H) → Nat
  | [] => 0
  | d :: r => uptoBulk d + uptoBulkAll r
def uptoBulkEntries {H : Type} : List (Lit × DataW H) → Nat
  | [] => 0
  | x :: r => uptoBulkEntry x + uptoBulkEntries r
def uptoBulkEntry {H : Type} : Lit × DataW H → Nat
  | (.string bytes, d) => bytes.length + uptoBulk d + 1
  | (_, d) => uptoBulk d + 1
 end
def uptoSmall : (H : Type) → List (DataW H) → Bool := fun _ ds => decide (uptoBulkAll ds ≤ 1048576)
def OpenSpec.upto (s : _root_.Go.ChangeSpec) : _root_.Go.OpenSpec := { _root_.Go.OpenSpec.ofChange s with cond := some uptoSmall }

/-- 'attestorlaw15.EvalMatchesReference', WHERE WHAT IT READS IS OF BULK AT MOST 1048576: true; the input reads as it did. -/
def evalMatchesReferenceUptoRow : OpenClaim := { program := "ytmkpaolbejlodaadoor", sum := "6c98584cb0c3cbbea5bf929cd34ab21a4c5027b587718182a1dcfe4c74e63a0a", func := "attestor/attestorlaw15.EvalMatchesReference", spec := "evalMatchesReference", unfollowed := true, recurses := true, named := ["attestor/typecheck.widths"], apart := false, laid := [("attestor/typecheck.widths", laid_attestor_typecheck_widths)], narrowed := true }
def EvalMatchesReferenceUptoSaid : Prop := evalMatchesReferenceUptoRow.holds Tryd.pinned (OpenSpec.upto evalMatchesReferenceSpec)

/-- 'attestorlaw15.EvalAdditive', WHERE WHAT IT READS IS OF BULK AT MOST 1048576: true; the input reads as it did. -/
def evalAdditiveUptoRow : OpenClaim := { program := "ytmkpaolbejlodaadoor", sum := "6c98584cb0c3cbbea5bf929cd34ab21a4c5027b587718182a1dcfe4c74e63a0a", func := "attestor/attestorlaw15.EvalAdditive", spec := "evalAdditive", unfollowed := true, recurses := true, named := ["attestor/typecheck.widths"], apart := false, laid := [("attestor/typecheck.widths", laid_attestor_typecheck_widths)], narrowed := true }
def EvalAdditiveUptoSaid : Prop := evalAdditiveUptoRow.holds Tryd.pinned (OpenSpec.upto evalAdditiveSpec)

/-- 'attestorlaw15.EvalRetraction', WHERE WHAT IT READS IS OF BULK AT MOST 1048576: true; the input reads as it did. -/
def evalRetractionUptoRow : OpenClaim := { program := "ytmkpaolbejlodaadoor", sum := "6c98584cb0c3cbbea5bf929cd34ab21a4c5027b587718182a1dcfe4c74e63a0a", func := "attestor/attestorlaw15.EvalRetraction", spec := "evalRetraction", unfollowed := true, recurses := true, named := ["attestor/typecheck.widths"], apart := false, laid := [("attestor/typecheck.widths", laid_attestor_typecheck_widths)], narrowed := true }
def EvalRetractionUptoSaid : Prop := evalRetractionUptoRow.holds Tryd.pinned (OpenSpec.upto evalRetractionSpec)

/-- 'attestorlaw15.EvalOrderStatistics', WHERE WHAT IT READS IS OF BULK AT MOST 1048576: true; the input reads as it did. -/
def evalOrderStatisticsUptoRow : OpenClaim := { program := "ytmkpaolbejlodaadoor", sum := "6c98584cb0c3cbbea5bf929cd34ab21a4c5027b587718182a1dcfe4c74e63a0a", func := "attestor/attestorlaw15.EvalOrderStatistics", spec := "evalOrderStatistics", unfollowed := true, recurses := true, named := ["attestor/typecheck.widths"], apart := false, laid := [("attestor/typecheck.widths", laid_attestor_typecheck_widths)], narrowed := true }
def EvalOrderStatisticsUptoSaid : Prop := evalOrderStatisticsUptoRow.holds Tryd.pinned (OpenSpec.upto evalOrderStatisticsSpec)

/-- 'attestorlaw15.EvalPairsAreCounted', WHERE WHAT IT READS IS OF BULK AT MOST 1048576: true; the input reads as it did. -/
def evalPairsAreCountedUptoRow : OpenClaim := { program := "ytmkpaolbejlodaadoor", sum := "6c98584cb0c3cbbea5bf929cd34ab21a4c5027b587718182a1dcfe4c74e63a0a", func := "attestor/attestorlaw15.EvalPairsAreCounted", spec := "evalPairsAreCounted", unfollowed := true, recurses := true, named := ["attestor/typecheck.widths"], apart := false, laid := [("attestor/typecheck.widths", laid_attestor_typecheck_widths)], narrowed := true }
def EvalPairsAreCountedUptoSaid : Prop := evalPairsAreCountedUptoRow.holds Tryd.pinned (OpenSpec.upto evalPairsAreCountedSpec)

/-- 'attestorlaw15.EvalMoments', WHERE WHAT IT READS IS OF BULK AT MOST 1048576: true; the input reads as it did. -/
def evalMomentsUptoRow : OpenClaim := { program := "ytmkpaolbejlodaadoor", sum := "6c98584cb0c3cbbea5bf929cd34ab21a4c5027b587718182a1dcfe4c74e63a0a", func := "attestor/attestorlaw15.EvalMoments", spec := "evalMoments", unfollowed := true, recurses := true, named := ["attestor/typecheck.widths"], apart := false, laid := [("attestor/typecheck.widths", laid_attestor_typecheck_widths)], narrowed := true }
def EvalMomentsUptoSaid : Prop := evalMomentsUptoRow.holds Tryd.pinned (OpenSpec.upto evalMomentsSpec)

/-- 'attestorlaw15.EvalFilters', WHERE WHAT IT READS IS OF BULK AT MOST 1048576: true; the input reads as it did. -/
def evalFiltersUptoRow : OpenClaim := { program := "ytmkpaolbejlodaadoor", sum := "6c98584cb0c3cbbea5bf929cd34ab21a4c5027b587718182a1dcfe4c74e63a0a", func := "attestor/attestorlaw15.EvalFilters", spec := "evalFilters", unfollowed := true, recurses := true, named := ["attestor/typecheck.widths"], apart := false, laid := [("attestor/typecheck.widths", laid_attestor_typecheck_widths)], narrowed := true }
def EvalFiltersUptoSaid : Prop := evalFiltersUptoRow.holds Tryd.pinned (OpenSpec.upto evalFiltersSpec)

end Rows
end Go.Proofs.YtmkpaolbejlodaaDoor

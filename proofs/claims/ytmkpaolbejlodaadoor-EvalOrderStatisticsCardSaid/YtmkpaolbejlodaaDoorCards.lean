/-
  DERIVED. GIVEN WITH THE SEED: THE CARDS: each row of YtmkpaolbejlodaaDoorRows.lean that lists a variable, with what it lists TIED to the program's text (the seventh form; the later family's looks); each row that meets fmt, with fmt's text TOLD by the authors' own Lean function (tested against real Go, not proved from fmt's source: count such statements apart). THE CARD IS WHAT COUNTS. Prove the row's statement (the work); the ties are given (YtmkpaolbejlodaaDoorTie.lean); close each card by the builder's one call (the guide's Derived/Test/ToyasCard.lean, 'card_holds'). Laid BY PROGRAM, IN A SANDBOX (cutbox-door.mjs). By AI agents, Wed Nov 11 2026. No macro, syntax, notation, axiom, sorry.
-/
import Derived.Test.YtmkpaolbejlodaaDoorRows
import GoSem.ClaimSeven
namespace Go.Proofs.YtmkpaolbejlodaaDoor
namespace Rows

/-- THE TIED CARD OF 'attestorlaw15.EvalMatchesReference'. -/
def evalMatchesReferenceCard : Claim7 := { stood := { row := evalMatchesReferenceRow, standIns := [], harness := (true, "95460d6031b8c1f2744ffbe5fc2cd3863772dc006e53b96a0cfbc124aa9aff91"), looks := false }, kinds := [], alts := [], laidByText := true, laidKinds := [.mapped], laidTests := true, laidLooks := .later }
def EvalMatchesReferenceCardSaid : Prop := Claim7.holds Tryd.pinned (.plain (OpenSpec.ofChange evalMatchesReferenceSpec)) evalMatchesReferenceCard

/-- THE TIED CARD OF 'attestorlaw15.EvalAdditive'. -/
def evalAdditiveCard : Claim7 := { stood := { row := evalAdditiveRow, standIns := [], harness := (true, "95460d6031b8c1f2744ffbe5fc2cd3863772dc006e53b96a0cfbc124aa9aff91"), looks := false }, kinds := [], alts := [], laidByText := true, laidKinds := [.mapped], laidTests := true, laidLooks := .later }
def EvalAdditiveCardSaid : Prop := Claim7.holds Tryd.pinned (.plain (OpenSpec.ofChange evalAdditiveSpec)) evalAdditiveCard

/-- THE TIED CARD OF 'attestorlaw15.EvalRetraction'. -/
def evalRetractionCard : Claim7 := { stood := { row := evalRetractionRow, standIns := [], harness := (true, "95460d6031b8c1f2744ffbe5fc2cd3863772dc006e53b96a0cfbc124aa9aff91"), looks := false }, kinds := [], alts := [], laidByText := true, laidKinds := [.mapped], laidTests := true, laidLooks := .later }
def EvalRetractionCardSaid : Prop := Claim7.holds Tryd.pinned (.plain (OpenSpec.ofChange evalRetractionSpec)) evalRetractionCard

/-- THE TIED CARD OF 'attestorlaw15.EvalOrderStatistics'. -/
def evalOrderStatisticsCard : Claim7 := { stood := { row := evalOrderStatisticsRow, standIns := [], harness := (true, "95460d6031b8c1f2744ffbe5fc2cd3863772dc006e53b96a0cfbc124aa9aff91"), looks := false }, kinds := [], alts := [], laidByText := true, laidKinds := [.mapped], laidTests := true, laidLooks := .later }
def EvalOrderStatisticsCardSaid : Prop := Claim7.holds Tryd.pinned (.plain (OpenSpec.ofChange evalOrderStatisticsSpec)) evalOrderStatisticsCard

/-- THE TIED CARD OF 'attestorlaw15.EvalPairsAreCounted'. -/
def evalPairsAreCountedCard : Claim7 := { stood := { row := evalPairsAreCountedRow, standIns := [], harness := (true, "95460d6031b8c1f2744ffbe5fc2cd3863772dc006e53b96a0cfbc124aa9aff91"), looks := false }, kinds := [], alts := [], laidByText := true, laidKinds := [.mapped], laidTests := true, laidLooks := .later }
def EvalPairsAreCountedCardSaid : Prop := Claim7.holds Tryd.pinned (.plain (OpenSpec.ofChange evalPairsAreCountedSpec)) evalPairsAreCountedCard

/-- THE TIED CARD OF 'attestorlaw15.EvalMoments'. -/
def evalMomentsCard : Claim7 := { stood := { row := evalMomentsRow, standIns := [], harness := (true, "95460d6031b8c1f2744ffbe5fc2cd3863772dc006e53b96a0cfbc124aa9aff91"), looks := false }, kinds := [], alts := [], laidByText := true, laidKinds := [.mapped], laidTests := true, laidLooks := .later }
def EvalMomentsCardSaid : Prop := Claim7.holds Tryd.pinned (.plain (OpenSpec.ofChange evalMomentsSpec)) evalMomentsCard

/-- THE TIED CARD OF 'attestorlaw15.EvalFilters'. -/
def evalFiltersCard : Claim7 := { stood := { row := evalFiltersRow, standIns := [], harness := (true, "95460d6031b8c1f2744ffbe5fc2cd3863772dc006e53b96a0cfbc124aa9aff91"), looks := false }, kinds := [], alts := [], laidByText := true, laidKinds := [.mapped], laidTests := true, laidLooks := .later }
def EvalFiltersCardSaid : Prop := Claim7.holds Tryd.pinned (.plain (OpenSpec.ofChange evalFiltersSpec)) evalFiltersCard

/-- THE SECOND FORM's CARD OF 'attestorlaw15.EvalMatchesReference'. -/
def evalMatchesReferenceUptoCard : Claim7 := { stood := { row := evalMatchesReferenceUptoRow, standIns := [], harness := (true, "95460d6031b8c1f2744ffbe5fc2cd3863772dc006e53b96a0cfbc124aa9aff91"), looks := false }, kinds := [], alts := [], laidByText := true, laidKinds := [.mapped], laidTests := true, laidLooks := .later }
def EvalMatchesReferenceUptoCardSaid : Prop := Claim7.holds Tryd.pinned (.plain (OpenSpec.upto evalMatchesReferenceSpec)) evalMatchesReferenceUptoCard

/-- THE SECOND FORM's CARD OF 'attestorlaw15.EvalAdditive'. -/
def evalAdditiveUptoCard : Claim7 := { stood := { row := evalAdditiveUptoRow, standIns := [], harness := (true, "95460d6031b8c1f2744ffbe5fc2cd3863772dc006e53b96a0cfbc124aa9aff91"), looks := false }, kinds := [], alts := [], laidByText := true, laidKinds := [.mapped], laidTests := true, laidLooks := .later }
def EvalAdditiveUptoCardSaid : Prop := Claim7.holds Tryd.pinned (.plain (OpenSpec.upto evalAdditiveSpec)) evalAdditiveUptoCard

/-- THE SECOND FORM's CARD OF 'attestorlaw15.EvalRetraction'. -/
def evalRetractionUptoCard : Claim7 := { stood := { row := evalRetractionUptoRow, standIns := [], harness := (true, "95460d6031b8c1f2744ffbe5fc2cd3863772dc006e53b96a0cfbc124aa9aff91"), looks := false }, kinds := [], alts := [], laidByText := true, laidKinds := [.mapped], laidTests := true, laidLooks := .later }
def EvalRetractionUptoCardSaid : Prop := Claim7.holds Tryd.pinned (.plain (OpenSpec.upto evalRetractionSpec)) evalRetractionUptoCard

/-- THE SECOND FORM's CARD OF 'attestorlaw15.EvalOrderStatistics'. -/
def evalOrderStatisticsUptoCard : Claim7 := { stood := { row := evalOrderStatisticsUptoRow, standIns := [], harness := (true, "95460d6031b8c1f2744ffbe5fc2cd3863772dc006e53b96a0cfbc124aa9aff91"), looks := false }, kinds := [], alts := [], laidByText := true, laidKinds := [.mapped], laidTests := true, laidLooks := .later }
def EvalOrderStatisticsUptoCardSaid : Prop := Claim7.holds Tryd.pinned (.plain (OpenSpec.upto evalOrderStatisticsSpec)) evalOrderStatisticsUptoCard

/-- THE SECOND FORM's CARD OF 'attestorlaw15.EvalPairsAreCounted'. -/
def evalPairsAreCountedUptoCard : Claim7 := { stood := { row := evalPairsAreCountedUptoRow, standIns := [], harness := (true, "95460d6031b8c1f2744ffbe5fc2cd3863772dc006e53b96a0cfbc124aa9aff91"), looks := false }, kinds := [], alts := [], laidByText := true, laidKinds := [.mapped], laidTests := true, laidLooks := .later }
def EvalPairsAreCountedUptoCardSaid : Prop := Claim7.holds Tryd.pinned (.plain (OpenSpec.upto evalPairsAreCountedSpec)) evalPairsAreCountedUptoCard

/-- THE SECOND FORM's CARD OF 'attestorlaw15.EvalMoments'. -/
def evalMomentsUptoCard : Claim7 := { stood := { row := evalMomentsUptoRow, standIns := [], harness := (true, "95460d6031b8c1f2744ffbe5fc2cd3863772dc006e53b96a0cfbc124aa9aff91"), looks := false }, kinds := [], alts := [], laidByText := true, laidKinds := [.mapped], laidTests := true, laidLooks := .later }
def EvalMomentsUptoCardSaid : Prop := Claim7.holds Tryd.pinned (.plain (OpenSpec.upto evalMomentsSpec)) evalMomentsUptoCard

/-- THE SECOND FORM's CARD OF 'attestorlaw15.EvalFilters'. -/
def evalFiltersUptoCard : Claim7 := { stood := { row := evalFiltersUptoRow, standIns := [], harness := (true, "95460d6031b8c1f2744ffbe5fc2cd3863772dc006e53b96a0cfbc124aa9aff91"), looks := false }, kinds := [], alts := [], laidByText := true, laidKinds := [.mapped], laidTests := true, laidLooks := .later }
def EvalFiltersUptoCardSaid : Prop := Claim7.holds Tryd.pinned (.plain (OpenSpec.upto evalFiltersSpec)) evalFiltersUptoCard
end Rows
end Go.Proofs.YtmkpaolbejlodaaDoor

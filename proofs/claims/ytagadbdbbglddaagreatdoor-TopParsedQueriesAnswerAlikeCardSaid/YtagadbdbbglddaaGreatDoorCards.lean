/-
  DERIVED. GIVEN WITH THE SEED: THE CARDS: each row of YtagadbdbbglddaaGreatDoorRows.lean that lists a variable, with what it lists TIED to the program's text (the seventh form; the later family's looks); each row that meets fmt, with fmt's text TOLD by the authors' own Lean function (tested against real Go, not proved from fmt's source: count such statements apart). THE CARD IS WHAT COUNTS. Prove the row's statement (the work); the ties are given (YtagadbdbbglddaaGreatDoorTie.lean); close each card by the builder's one call (the guide's Derived/Test/ToyasCard.lean, 'card_holds'). Laid BY PROGRAM, IN A SANDBOX (cutbox-door.mjs). By AI agents, Wed Nov 11 2026. No macro, syntax, notation, axiom, sorry.
-/
import Derived.Test.YtagadbdbbglddaaGreatDoorRows
import GoSem.ClaimSeven
namespace Go.Proofs.YtagadbdbbglddaaGreatDoor
namespace Rows

/-- THE TIED CARD OF 'attestortop.TopBoundsHold'. -/
def topBoundsHoldCard : Claim7 := { stood := { row := topBoundsHoldRow, standIns := [], harness := (true, "c51dfbf4f69ac313ceac5b7e83ff4c53e47e34d950f96fa57e8df4917da51ede"), looks := true }, kinds := [], alts := [], laidByText := true, laidKinds := [.data, .data, .data, .sentinel, .sentinel, .mapped], laidTests := true, laidLooks := .later }
def TopBoundsHoldCardSaid : Prop := Claim7.holds Tryz.pinned (.plain (OpenSpec.ofChange topBoundsHoldSpec)) topBoundsHoldCard

/-- THE TIED CARD OF 'attestortop.TopParsedQueriesAnswerAlike'. -/
def topParsedQueriesAnswerAlikeCard : Claim7 := { stood := { row := topParsedQueriesAnswerAlikeRow, standIns := [], harness := (true, "c51dfbf4f69ac313ceac5b7e83ff4c53e47e34d950f96fa57e8df4917da51ede"), looks := true }, kinds := [], alts := [], laidByText := true, laidKinds := [.data, .data, .data, .sentinel, .sentinel, .mapped], laidTests := true, laidLooks := .later }
def TopParsedQueriesAnswerAlikeCardSaid : Prop := Claim7.holds Tryz.pinned (.plain (OpenSpec.ofChange topParsedQueriesAnswerAlikeSpec)) topParsedQueriesAnswerAlikeCard

/-- THE SECOND FORM's CARD OF 'attestortop.TopBoundsHold'. -/
def topBoundsHoldUptoCard : Claim7 := { stood := { row := topBoundsHoldUptoRow, standIns := [], harness := (true, "c51dfbf4f69ac313ceac5b7e83ff4c53e47e34d950f96fa57e8df4917da51ede"), looks := true }, kinds := [], alts := [], laidByText := true, laidKinds := [.data, .data, .data, .sentinel, .sentinel, .mapped], laidTests := true, laidLooks := .later }
def TopBoundsHoldUptoCardSaid : Prop := Claim7.holds Tryz.pinned (.plain (OpenSpec.upto topBoundsHoldSpec)) topBoundsHoldUptoCard

/-- THE SECOND FORM's CARD OF 'attestortop.TopParsedQueriesAnswerAlike'. -/
def topParsedQueriesAnswerAlikeUptoCard : Claim7 := { stood := { row := topParsedQueriesAnswerAlikeUptoRow, standIns := [], harness := (true, "c51dfbf4f69ac313ceac5b7e83ff4c53e47e34d950f96fa57e8df4917da51ede"), looks := true }, kinds := [], alts := [], laidByText := true, laidKinds := [.data, .data, .data, .sentinel, .sentinel, .mapped], laidTests := true, laidLooks := .later }
def TopParsedQueriesAnswerAlikeUptoCardSaid : Prop := Claim7.holds Tryz.pinned (.plain (OpenSpec.upto topParsedQueriesAnswerAlikeSpec)) topParsedQueriesAnswerAlikeUptoCard
end Rows
end Go.Proofs.YtagadbdbbglddaaGreatDoor

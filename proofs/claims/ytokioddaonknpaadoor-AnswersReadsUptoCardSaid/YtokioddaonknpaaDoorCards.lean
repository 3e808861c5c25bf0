/-
  DERIVED. GIVEN WITH THE SEED: THE CARDS: each row of YtokioddaonknpaaDoorRows.lean that lists a variable, with what it lists TIED to the program's text (the seventh form; the later family's looks); each row that meets fmt, with fmt's text TOLD by the authors' own Lean function (tested against real Go, not proved from fmt's source: count such statements apart). THE CARD IS WHAT COUNTS. Prove the row's statement (the work); the ties are given (YtokioddaonknpaaDoorTie.lean); close each card by the builder's one call (the guide's Derived/Test/ToyasCard.lean, 'card_holds'). Laid BY PROGRAM, IN A SANDBOX (cutbox-door.mjs). By AI agents, Wed Nov 11 2026. No macro, syntax, notation, axiom, sorry.
-/
import Derived.Test.YtokioddaonknpaaDoorRows
import GoSem.ClaimSeven
namespace Go.Proofs.YtokioddaonknpaaDoor
namespace Rows

/-- THE TIED CARD OF 'backfilllaw09.AnswersEvents'. -/
def answersEventsCard : Claim7 := { stood := { row := answersEventsRow, standIns := [], harness := (true, "152be09f7e995c23e85af6b2979c8610a9a1f856a0642009f2001a1328ef3eba"), looks := true }, kinds := [], alts := [], laidByText := true, laidKinds := [.data, .data, .data, .data, .sentinel, .sentinel, .pinned], laidTests := true, laidLooks := .later }
def AnswersEventsCardSaid : Prop := Claim7.holds Tryd.pinned (.plain (OpenSpec.ofChange answersEventsSpec)) answersEventsCard

/-- THE TIED CARD OF 'backfilllaw09.AnswersReads'. -/
def answersReadsCard : Claim7 := { stood := { row := answersReadsRow, standIns := [], harness := (true, "152be09f7e995c23e85af6b2979c8610a9a1f856a0642009f2001a1328ef3eba"), looks := true }, kinds := [], alts := [], laidByText := true, laidKinds := [.data, .data, .data, .data, .sentinel, .sentinel, .pinned], laidTests := true, laidLooks := .later }
def AnswersReadsCardSaid : Prop := Claim7.holds Tryd.pinned (.plain (OpenSpec.ofChange answersReadsSpec)) answersReadsCard

/-- THE TIED CARD OF 'backfilllaw09.AnswersJoins'. -/
def answersJoinsCard : Claim7 := { stood := { row := answersJoinsRow, standIns := [], harness := (true, "152be09f7e995c23e85af6b2979c8610a9a1f856a0642009f2001a1328ef3eba"), looks := true }, kinds := [], alts := [], laidByText := true, laidKinds := [.data, .data, .data, .data, .sentinel, .sentinel, .pinned], laidTests := true, laidLooks := .later }
def AnswersJoinsCardSaid : Prop := Claim7.holds Tryd.pinned (.plain (OpenSpec.ofChange answersJoinsSpec)) answersJoinsCard

/-- THE SECOND FORM's CARD OF 'backfilllaw09.AnswersEvents'. -/
def answersEventsUptoCard : Claim7 := { stood := { row := answersEventsUptoRow, standIns := [], harness := (true, "152be09f7e995c23e85af6b2979c8610a9a1f856a0642009f2001a1328ef3eba"), looks := true }, kinds := [], alts := [], laidByText := true, laidKinds := [.data, .data, .data, .data, .sentinel, .sentinel, .pinned], laidTests := true, laidLooks := .later }
def AnswersEventsUptoCardSaid : Prop := Claim7.holds Tryd.pinned (.plain (OpenSpec.upto answersEventsSpec)) answersEventsUptoCard

/-- THE SECOND FORM's CARD OF 'backfilllaw09.AnswersReads'. -/
def answersReadsUptoCard : Claim7 := { stood := { row := answersReadsUptoRow, standIns := [], harness := (true, "152be09f7e995c23e85af6b2979c8610a9a1f856a0642009f2001a1328ef3eba"), looks := true }, kinds := [], alts := [], laidByText := true, laidKinds := [.data, .data, .data, .data, .sentinel, .sentinel, .pinned], laidTests := true, laidLooks := .later }
def AnswersReadsUptoCardSaid : Prop := Claim7.holds Tryd.pinned (.plain (OpenSpec.upto answersReadsSpec)) answersReadsUptoCard

/-- THE SECOND FORM's CARD OF 'backfilllaw09.AnswersJoins'. -/
def answersJoinsUptoCard : Claim7 := { stood := { row := answersJoinsUptoRow, standIns := [], harness := (true, "152be09f7e995c23e85af6b2979c8610a9a1f856a0642009f2001a1328ef3eba"), looks := true }, kinds := [], alts := [], laidByText := true, laidKinds := [.data, .data, .data, .data, .sentinel, .sentinel, .pinned], laidTests := true, laidLooks := .later }
def AnswersJoinsUptoCardSaid : Prop := Claim7.holds Tryd.pinned (.plain (OpenSpec.upto answersJoinsSpec)) answersJoinsUptoCard
end Rows
end Go.Proofs.YtokioddaonknpaaDoor

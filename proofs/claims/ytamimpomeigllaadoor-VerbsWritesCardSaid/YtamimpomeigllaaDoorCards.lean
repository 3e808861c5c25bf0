/-
  DERIVED. GIVEN WITH THE SEED: THE CARDS: each row of YtamimpomeigllaaDoorRows.lean that lists a variable, with what it lists TIED to the program's text (the seventh form; the later family's looks); each row that meets fmt, with fmt's text TOLD by the authors' own Lean function (tested against real Go, not proved from fmt's source: count such statements apart). THE CARD IS WHAT COUNTS. Prove the row's statement (the work); the ties are given (YtamimpomeigllaaDoorTie.lean); close each card by the builder's one call (the guide's Derived/Test/ToyasCard.lean, 'card_holds'). Laid BY PROGRAM, IN A SANDBOX (cutbox-door.mjs). By AI agents, Wed Nov 11 2026. No macro, syntax, notation, axiom, sorry.
-/
import Derived.Test.YtamimpomeigllaaDoorRows
import GoSem.ClaimSeven
namespace Go.Proofs.YtamimpomeigllaaDoor
namespace Rows

/-- THE TIED CARD OF 'backfilllaw08.VerbsReads'. -/
def verbsReadsCard : Claim7 := { stood := { row := verbsReadsRow, standIns := [], harness := (true, "cf56b97f8a633d091993256ad0f095fc7a17453500b5a6f41a9748dd40bb50fe"), looks := true }, kinds := [], alts := [], laidByText := true, laidKinds := [.data, .data, .data, .data, .sentinel, .sentinel, .pinned], laidTests := true, laidLooks := .later }
def VerbsReadsCardSaid : Prop := Claim7.holds Tryd.pinned (.plain (OpenSpec.ofChange verbsReadsSpec)) verbsReadsCard

/-- THE TIED CARD OF 'backfilllaw08.VerbsWrites'. -/
def verbsWritesCard : Claim7 := { stood := { row := verbsWritesRow, standIns := [], harness := (true, "cf56b97f8a633d091993256ad0f095fc7a17453500b5a6f41a9748dd40bb50fe"), looks := true }, kinds := [], alts := [], laidByText := true, laidKinds := [.data, .data, .data, .data, .sentinel, .sentinel, .pinned], laidTests := true, laidLooks := .later }
def VerbsWritesCardSaid : Prop := Claim7.holds Tryd.pinned (.plain (OpenSpec.ofChange verbsWritesSpec)) verbsWritesCard

/-- THE SECOND FORM's CARD OF 'backfilllaw08.VerbsReads'. -/
def verbsReadsUptoCard : Claim7 := { stood := { row := verbsReadsUptoRow, standIns := [], harness := (true, "cf56b97f8a633d091993256ad0f095fc7a17453500b5a6f41a9748dd40bb50fe"), looks := true }, kinds := [], alts := [], laidByText := true, laidKinds := [.data, .data, .data, .data, .sentinel, .sentinel, .pinned], laidTests := true, laidLooks := .later }
def VerbsReadsUptoCardSaid : Prop := Claim7.holds Tryd.pinned (.plain (OpenSpec.upto verbsReadsSpec)) verbsReadsUptoCard

/-- THE SECOND FORM's CARD OF 'backfilllaw08.VerbsWrites'. -/
def verbsWritesUptoCard : Claim7 := { stood := { row := verbsWritesUptoRow, standIns := [], harness := (true, "cf56b97f8a633d091993256ad0f095fc7a17453500b5a6f41a9748dd40bb50fe"), looks := true }, kinds := [], alts := [], laidByText := true, laidKinds := [.data, .data, .data, .data, .sentinel, .sentinel, .pinned], laidTests := true, laidLooks := .later }
def VerbsWritesUptoCardSaid : Prop := Claim7.holds Tryd.pinned (.plain (OpenSpec.upto verbsWritesSpec)) verbsWritesUptoCard
end Rows
end Go.Proofs.YtamimpomeigllaaDoor

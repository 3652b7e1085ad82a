/-
  DERIVED. GIVEN WITH THE SEED: THE CARDS: each row of YtgkjlpielikecaaGreatDoorRows.lean that lists a variable, with what it lists TIED to the program's text (the seventh form; the later family's looks); each row that meets fmt, with fmt's text TOLD by the authors' own Lean function (tested against real Go, not proved from fmt's source: count such statements apart). THE CARD IS WHAT COUNTS. Prove the row's statement (the work); the ties are given (YtgkjlpielikecaaGreatDoorTie.lean); close each card by the builder's one call (the guide's Derived/Test/ToyasCard.lean, 'card_holds'). Laid BY PROGRAM, IN A SANDBOX (cutbox-door.mjs). By AI agents, Wed Nov 11 2026. No macro, syntax, notation, axiom, sorry.
-/
import Derived.Test.YtgkjlpielikecaaGreatDoorRows
import GoSem.ClaimSeven
namespace Go.Proofs.YtgkjlpielikecaaGreatDoor
namespace Rows

/-- THE TIED CARD OF 'joinerylaw15.PlayEnds'. -/
def playEndsCard : Claim7 := { stood := { row := playEndsRow, standIns := [], harness := (true, "aa621b7a0d5e40603c5552afd52542e0919ef59fcced27f1eab2a9ee61c40de9"), looks := true }, kinds := [], alts := [], laidByText := true, laidKinds := [.data, .data, .data, .data, .listed, .data, .pinned], laidTests := true, laidLooks := .later }
def PlayEndsCardSaid : Prop := Claim7.holds Tryz.pinned (.plain (OpenSpec.ofChange playEndsSpec)) playEndsCard

/-- THE TIED CARD OF 'joinerylaw15.PlayBack'. -/
def playBackCard : Claim7 := { stood := { row := playBackRow, standIns := [], harness := (true, "aa621b7a0d5e40603c5552afd52542e0919ef59fcced27f1eab2a9ee61c40de9"), looks := true }, kinds := [], alts := [], laidByText := true, laidKinds := [.data, .data, .data, .data, .listed, .data, .pinned], laidTests := true, laidLooks := .later }
def PlayBackCardSaid : Prop := Claim7.holds Tryz.pinned (.plain (OpenSpec.ofChange playBackSpec)) playBackCard

/-- THE TIED CARD OF 'joinerylaw15.PlayKnown'. -/
def playKnownCard : Claim7 := { stood := { row := playKnownRow, standIns := [], harness := (true, "aa621b7a0d5e40603c5552afd52542e0919ef59fcced27f1eab2a9ee61c40de9"), looks := true }, kinds := [], alts := [], laidByText := true, laidKinds := [.data, .data, .data, .data, .listed, .data, .pinned], laidTests := true, laidLooks := .later }
def PlayKnownCardSaid : Prop := Claim7.holds Tryz.pinned (.plain (OpenSpec.ofChange playKnownSpec)) playKnownCard

/-- THE TIED CARD OF 'joinerylaw15.PlayNumbers'. -/
def playNumbersCard : Claim7 := { stood := { row := playNumbersRow, standIns := [], harness := (true, "aa621b7a0d5e40603c5552afd52542e0919ef59fcced27f1eab2a9ee61c40de9"), looks := true }, kinds := [], alts := [], laidByText := true, laidKinds := [.data, .data, .data, .data, .listed, .data, .pinned], laidTests := true, laidLooks := .later }
def PlayNumbersCardSaid : Prop := Claim7.holds Tryz.pinned (.plain (OpenSpec.ofChange playNumbersSpec)) playNumbersCard

/-- THE SECOND FORM's CARD OF 'joinerylaw15.PlayEnds'. -/
def playEndsUptoCard : Claim7 := { stood := { row := playEndsUptoRow, standIns := [], harness := (true, "aa621b7a0d5e40603c5552afd52542e0919ef59fcced27f1eab2a9ee61c40de9"), looks := true }, kinds := [], alts := [], laidByText := true, laidKinds := [.data, .data, .data, .data, .listed, .data, .pinned], laidTests := true, laidLooks := .later }
def PlayEndsUptoCardSaid : Prop := Claim7.holds Tryz.pinned (.plain (OpenSpec.upto playEndsSpec)) playEndsUptoCard

/-- THE SECOND FORM's CARD OF 'joinerylaw15.PlayBack'. -/
def playBackUptoCard : Claim7 := { stood := { row := playBackUptoRow, standIns := [], harness := (true, "aa621b7a0d5e40603c5552afd52542e0919ef59fcced27f1eab2a9ee61c40de9"), looks := true }, kinds := [], alts := [], laidByText := true, laidKinds := [.data, .data, .data, .data, .listed, .data, .pinned], laidTests := true, laidLooks := .later }
def PlayBackUptoCardSaid : Prop := Claim7.holds Tryz.pinned (.plain (OpenSpec.upto playBackSpec)) playBackUptoCard

/-- THE SECOND FORM's CARD OF 'joinerylaw15.PlayKnown'. -/
def playKnownUptoCard : Claim7 := { stood := { row := playKnownUptoRow, standIns := [], harness := (true, "aa621b7a0d5e40603c5552afd52542e0919ef59fcced27f1eab2a9ee61c40de9"), looks := true }, kinds := [], alts := [], laidByText := true, laidKinds := [.data, .data, .data, .data, .listed, .data, .pinned], laidTests := true, laidLooks := .later }
def PlayKnownUptoCardSaid : Prop := Claim7.holds Tryz.pinned (.plain (OpenSpec.upto playKnownSpec)) playKnownUptoCard

/-- THE SECOND FORM's CARD OF 'joinerylaw15.PlayNumbers'. -/
def playNumbersUptoCard : Claim7 := { stood := { row := playNumbersUptoRow, standIns := [], harness := (true, "aa621b7a0d5e40603c5552afd52542e0919ef59fcced27f1eab2a9ee61c40de9"), looks := true }, kinds := [], alts := [], laidByText := true, laidKinds := [.data, .data, .data, .data, .listed, .data, .pinned], laidTests := true, laidLooks := .later }
def PlayNumbersUptoCardSaid : Prop := Claim7.holds Tryz.pinned (.plain (OpenSpec.upto playNumbersSpec)) playNumbersUptoCard
end Rows
end Go.Proofs.YtgkjlpielikecaaGreatDoor

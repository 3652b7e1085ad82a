/-
  DERIVED. GIVEN WITH THE SEED: THE CARDS: each row of YtpndngcopfpdgaaDoorRows.lean that lists a variable, with what it lists TIED to the program's text (the seventh form; the later family's looks); each row that meets fmt, with fmt's text TOLD by the authors' own Lean function (tested against real Go, not proved from fmt's source: count such statements apart). THE CARD IS WHAT COUNTS. Prove the row's statement (the work); the ties are given (YtpndngcopfpdgaaDoorTie.lean); close each card by the builder's one call (the guide's Derived/Test/ToyasCard.lean, 'card_holds'). Laid BY PROGRAM, IN A SANDBOX (cutbox-door.mjs). By AI agents, Wed Nov 11 2026. No macro, syntax, notation, axiom, sorry.
-/
import Derived.Test.YtpndngcopfpdgaaDoorRows
import GoSem.ClaimSeven
namespace Go.Proofs.YtpndngcopfpdgaaDoor
namespace Rows

/-- THE TIED CARD OF 'joinerylaw6.ScoreAll'. -/
def scoreAllCard : Claim7 := { stood := { row := scoreAllRow, standIns := [], harness := (true, "4c5c7cf94061460b9343a566f2e7c828ca9086bff4b5b4e46c940e63a31e8f31"), looks := false }, kinds := [], alts := [], laidByText := true, laidKinds := [.data], laidTests := true, laidLooks := .later }
def ScoreAllCardSaid : Prop := Claim7.holds Tryd.pinned (.plain (OpenSpec.ofChange scoreAllSpec)) scoreAllCard

/-- THE TIED CARD OF 'joinerylaw6.ScoreTurned'. -/
def scoreTurnedCard : Claim7 := { stood := { row := scoreTurnedRow, standIns := [], harness := (true, "4c5c7cf94061460b9343a566f2e7c828ca9086bff4b5b4e46c940e63a31e8f31"), looks := false }, kinds := [], alts := [], laidByText := true, laidKinds := [.data], laidTests := true, laidLooks := .later }
def ScoreTurnedCardSaid : Prop := Claim7.holds Tryd.pinned (.plain (OpenSpec.ofChange scoreTurnedSpec)) scoreTurnedCard

/-- THE TIED CARD OF 'joinerylaw6.ScoreKnown'. -/
def scoreKnownCard : Claim7 := { stood := { row := scoreKnownRow, standIns := [], harness := (true, "4c5c7cf94061460b9343a566f2e7c828ca9086bff4b5b4e46c940e63a31e8f31"), looks := false }, kinds := [], alts := [], laidByText := true, laidKinds := [.data], laidTests := true, laidLooks := .later }
def ScoreKnownCardSaid : Prop := Claim7.holds Tryd.pinned (.plain (OpenSpec.ofChange scoreKnownSpec)) scoreKnownCard

/-- THE TIED CARD OF 'joinerylaw6.ScoreEven'. -/
def scoreEvenCard : Claim7 := { stood := { row := scoreEvenRow, standIns := [], harness := (true, "4c5c7cf94061460b9343a566f2e7c828ca9086bff4b5b4e46c940e63a31e8f31"), looks := false }, kinds := [], alts := [], laidByText := true, laidKinds := [.data], laidTests := true, laidLooks := .later }
def ScoreEvenCardSaid : Prop := Claim7.holds Tryd.pinned (.plain (OpenSpec.ofChange scoreEvenSpec)) scoreEvenCard

/-- THE SECOND FORM's CARD OF 'joinerylaw6.ScoreAll'. -/
def scoreAllUptoCard : Claim7 := { stood := { row := scoreAllUptoRow, standIns := [], harness := (true, "4c5c7cf94061460b9343a566f2e7c828ca9086bff4b5b4e46c940e63a31e8f31"), looks := false }, kinds := [], alts := [], laidByText := true, laidKinds := [.data], laidTests := true, laidLooks := .later }
def ScoreAllUptoCardSaid : Prop := Claim7.holds Tryd.pinned (.plain (OpenSpec.upto scoreAllSpec)) scoreAllUptoCard

/-- THE SECOND FORM's CARD OF 'joinerylaw6.ScoreTurned'. -/
def scoreTurnedUptoCard : Claim7 := { stood := { row := scoreTurnedUptoRow, standIns := [], harness := (true, "4c5c7cf94061460b9343a566f2e7c828ca9086bff4b5b4e46c940e63a31e8f31"), looks := false }, kinds := [], alts := [], laidByText := true, laidKinds := [.data], laidTests := true, laidLooks := .later }
def ScoreTurnedUptoCardSaid : Prop := Claim7.holds Tryd.pinned (.plain (OpenSpec.upto scoreTurnedSpec)) scoreTurnedUptoCard

/-- THE SECOND FORM's CARD OF 'joinerylaw6.ScoreKnown'. -/
def scoreKnownUptoCard : Claim7 := { stood := { row := scoreKnownUptoRow, standIns := [], harness := (true, "4c5c7cf94061460b9343a566f2e7c828ca9086bff4b5b4e46c940e63a31e8f31"), looks := false }, kinds := [], alts := [], laidByText := true, laidKinds := [.data], laidTests := true, laidLooks := .later }
def ScoreKnownUptoCardSaid : Prop := Claim7.holds Tryd.pinned (.plain (OpenSpec.upto scoreKnownSpec)) scoreKnownUptoCard

/-- THE SECOND FORM's CARD OF 'joinerylaw6.ScoreEven'. -/
def scoreEvenUptoCard : Claim7 := { stood := { row := scoreEvenUptoRow, standIns := [], harness := (true, "4c5c7cf94061460b9343a566f2e7c828ca9086bff4b5b4e46c940e63a31e8f31"), looks := false }, kinds := [], alts := [], laidByText := true, laidKinds := [.data], laidTests := true, laidLooks := .later }
def ScoreEvenUptoCardSaid : Prop := Claim7.holds Tryd.pinned (.plain (OpenSpec.upto scoreEvenSpec)) scoreEvenUptoCard
end Rows
end Go.Proofs.YtpndngcopfpdgaaDoor

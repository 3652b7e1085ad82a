/-
  DERIVED. GIVEN WITH THE SEED: THE CARDS: each row of YtikamehjeaoilaaGreatDoorRows.lean that lists a variable, with what it lists TIED to the program's text (the seventh form; the later family's looks); each row that meets fmt, with fmt's text TOLD by the authors' own Lean function (tested against real Go, not proved from fmt's source: count such statements apart). THE CARD IS WHAT COUNTS. Prove the row's statement (the work); the ties are given (YtikamehjeaoilaaGreatDoorTie.lean); close each card by the builder's one call (the guide's Derived/Test/ToyasCard.lean, 'card_holds'). Laid BY PROGRAM, IN A SANDBOX (cutbox-door.mjs). By AI agents, Wed Nov 11 2026. No macro, syntax, notation, axiom, sorry.
-/
import Derived.Test.YtikamehjeaoilaaGreatDoorRows
import GoSem.ClaimSeven
namespace Go.Proofs.YtikamehjeaoilaaGreatDoor
namespace Rows

/-- THE TIED CARD OF 'joinerylaw15.PlayReads'. -/
def playReadsCard : Claim7 := { stood := { row := playReadsRow, standIns := [], harness := (true, "170f4b93082a83f31215ab081f45ef29f7c3ab5dab7027dd21a5335afaeaa28d"), looks := true }, kinds := [], alts := [], laidByText := true, laidKinds := [.data, .data, .data, .data, .listed, .data, .pinned], laidTests := true, laidLooks := .later }
def PlayReadsCardSaid : Prop := Claim7.holds Tryz.pinned (.plain (OpenSpec.ofChange playReadsSpec)) playReadsCard

/-- THE SECOND FORM's CARD OF 'joinerylaw15.PlayReads'. -/
def playReadsUptoCard : Claim7 := { stood := { row := playReadsUptoRow, standIns := [], harness := (true, "170f4b93082a83f31215ab081f45ef29f7c3ab5dab7027dd21a5335afaeaa28d"), looks := true }, kinds := [], alts := [], laidByText := true, laidKinds := [.data, .data, .data, .data, .listed, .data, .pinned], laidTests := true, laidLooks := .later }
def PlayReadsUptoCardSaid : Prop := Claim7.holds Tryz.pinned (.plain (OpenSpec.upto playReadsSpec)) playReadsUptoCard
end Rows
end Go.Proofs.YtikamehjeaoilaaGreatDoor

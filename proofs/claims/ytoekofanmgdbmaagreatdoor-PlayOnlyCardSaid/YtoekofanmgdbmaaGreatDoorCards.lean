/-
  DERIVED. GIVEN WITH THE SEED: THE CARDS: each row of YtoekofanmgdbmaaGreatDoorRows.lean that lists a variable, with what it lists TIED to the program's text (the seventh form; the later family's looks); each row that meets fmt, with fmt's text TOLD by the authors' own Lean function (tested against real Go, not proved from fmt's source: count such statements apart). THE CARD IS WHAT COUNTS. Prove the row's statement (the work); the ties are given (YtoekofanmgdbmaaGreatDoorTie.lean); close each card by the builder's one call (the guide's Derived/Test/ToyasCard.lean, 'card_holds'). Laid BY PROGRAM, IN A SANDBOX (cutbox-door.mjs). By AI agents, Wed Nov 11 2026. No macro, syntax, notation, axiom, sorry.
-/
import Derived.Test.YtoekofanmgdbmaaGreatDoorRows
import GoSem.ClaimSeven
namespace Go.Proofs.YtoekofanmgdbmaaGreatDoor
namespace Rows

/-- THE TIED CARD OF 'joinerylaw15.PlayReads'. -/
def playReadsCard : Claim7 := { stood := { row := playReadsRow, standIns := [], harness := (true, "2ab0bb1868edbd63f181f9e6792788b0ebd1f7656927cea76c314d692080bda4"), looks := true }, kinds := [], alts := [], laidByText := true, laidKinds := [.data, .data, .data, .data, .listed, .data, .pinned], laidTests := true, laidLooks := .later }
def PlayReadsCardSaid : Prop := Claim7.holds Tryz.pinned (.plain (OpenSpec.ofChange playReadsSpec)) playReadsCard

/-- THE TIED CARD OF 'joinerylaw15.PlayBack'. -/
def playBackCard : Claim7 := { stood := { row := playBackRow, standIns := [], harness := (true, "2ab0bb1868edbd63f181f9e6792788b0ebd1f7656927cea76c314d692080bda4"), looks := true }, kinds := [], alts := [], laidByText := true, laidKinds := [.data, .data, .data, .data, .listed, .data, .pinned], laidTests := true, laidLooks := .later }
def PlayBackCardSaid : Prop := Claim7.holds Tryz.pinned (.plain (OpenSpec.ofChange playBackSpec)) playBackCard

/-- THE TIED CARD OF 'joinerylaw15.PlayOnly'. -/
def playOnlyCard : Claim7 := { stood := { row := playOnlyRow, standIns := [], harness := (true, "2ab0bb1868edbd63f181f9e6792788b0ebd1f7656927cea76c314d692080bda4"), looks := true }, kinds := [], alts := [], laidByText := true, laidKinds := [.data, .data, .data, .data, .listed, .data, .pinned], laidTests := true, laidLooks := .later }
def PlayOnlyCardSaid : Prop := Claim7.holds Tryz.pinned (.plain (OpenSpec.ofChange playOnlySpec)) playOnlyCard

/-- THE SECOND FORM's CARD OF 'joinerylaw15.PlayReads'. -/
def playReadsUptoCard : Claim7 := { stood := { row := playReadsUptoRow, standIns := [], harness := (true, "2ab0bb1868edbd63f181f9e6792788b0ebd1f7656927cea76c314d692080bda4"), looks := true }, kinds := [], alts := [], laidByText := true, laidKinds := [.data, .data, .data, .data, .listed, .data, .pinned], laidTests := true, laidLooks := .later }
def PlayReadsUptoCardSaid : Prop := Claim7.holds Tryz.pinned (.plain (OpenSpec.upto playReadsSpec)) playReadsUptoCard

/-- THE SECOND FORM's CARD OF 'joinerylaw15.PlayBack'. -/
def playBackUptoCard : Claim7 := { stood := { row := playBackUptoRow, standIns := [], harness := (true, "2ab0bb1868edbd63f181f9e6792788b0ebd1f7656927cea76c314d692080bda4"), looks := true }, kinds := [], alts := [], laidByText := true, laidKinds := [.data, .data, .data, .data, .listed, .data, .pinned], laidTests := true, laidLooks := .later }
def PlayBackUptoCardSaid : Prop := Claim7.holds Tryz.pinned (.plain (OpenSpec.upto playBackSpec)) playBackUptoCard

/-- THE SECOND FORM's CARD OF 'joinerylaw15.PlayOnly'. -/
def playOnlyUptoCard : Claim7 := { stood := { row := playOnlyUptoRow, standIns := [], harness := (true, "2ab0bb1868edbd63f181f9e6792788b0ebd1f7656927cea76c314d692080bda4"), looks := true }, kinds := [], alts := [], laidByText := true, laidKinds := [.data, .data, .data, .data, .listed, .data, .pinned], laidTests := true, laidLooks := .later }
def PlayOnlyUptoCardSaid : Prop := Claim7.holds Tryz.pinned (.plain (OpenSpec.upto playOnlySpec)) playOnlyUptoCard
end Rows
end Go.Proofs.YtoekofanmgdbmaaGreatDoor

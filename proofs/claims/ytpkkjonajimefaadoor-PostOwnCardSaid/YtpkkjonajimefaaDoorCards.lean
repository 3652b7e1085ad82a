/-
  DERIVED. GIVEN WITH THE SEED: THE CARDS: each row of YtpkkjonajimefaaDoorRows.lean that lists a variable, with what it lists TIED to the program's text (the seventh form; the later family's looks); each row that meets fmt, with fmt's text TOLD by the authors' own Lean function (tested against real Go, not proved from fmt's source: count such statements apart). THE CARD IS WHAT COUNTS. Prove the row's statement (the work); the ties are given (YtpkkjonajimefaaDoorTie.lean); close each card by the builder's one call (the guide's Derived/Test/ToyasCard.lean, 'card_holds'). Laid BY PROGRAM, IN A SANDBOX (cutbox-door.mjs). By AI agents, Wed Nov 11 2026. No macro, syntax, notation, axiom, sorry.
-/
import Derived.Test.YtpkkjonajimefaaDoorRows
import GoSem.ClaimSeven
namespace Go.Proofs.YtpkkjonajimefaaDoor
namespace Rows

/-- THE TIED CARD OF 'joinerylaw12.PostText'. -/
def postTextCard : Claim7 := { stood := { row := postTextRow, standIns := [], harness := (true, "1237927cf8c606ba6753291d66ee8079ef9ba0763e055ec5e750b89da83dcd89"), looks := true }, kinds := [], alts := [], laidByText := true, laidKinds := [.data, .data, .data, .listed, .data], laidTests := true, laidLooks := .later }
def PostTextCardSaid : Prop := Claim7.holds Tryd.pinned (.plain (OpenSpec.ofChange postTextSpec)) postTextCard

/-- THE TIED CARD OF 'joinerylaw12.PostKnown'. -/
def postKnownCard : Claim7 := { stood := { row := postKnownRow, standIns := [], harness := (true, "1237927cf8c606ba6753291d66ee8079ef9ba0763e055ec5e750b89da83dcd89"), looks := true }, kinds := [], alts := [], laidByText := true, laidKinds := [.data, .data, .data, .listed, .data], laidTests := true, laidLooks := .later }
def PostKnownCardSaid : Prop := Claim7.holds Tryd.pinned (.plain (OpenSpec.ofChange postKnownSpec)) postKnownCard

/-- THE TIED CARD OF 'joinerylaw12.PostPlays'. -/
def postPlaysCard : Claim7 := { stood := { row := postPlaysRow, standIns := [], harness := (true, "1237927cf8c606ba6753291d66ee8079ef9ba0763e055ec5e750b89da83dcd89"), looks := true }, kinds := [], alts := [], laidByText := true, laidKinds := [.data, .data, .data, .listed, .data], laidTests := true, laidLooks := .later }
def PostPlaysCardSaid : Prop := Claim7.holds Tryd.pinned (.plain (OpenSpec.ofChange postPlaysSpec)) postPlaysCard

/-- THE TIED CARD OF 'joinerylaw12.PostFull'. -/
def postFullCard : Claim7 := { stood := { row := postFullRow, standIns := [], harness := (true, "1237927cf8c606ba6753291d66ee8079ef9ba0763e055ec5e750b89da83dcd89"), looks := true }, kinds := [], alts := [], laidByText := true, laidKinds := [.data, .data, .data, .listed, .data], laidTests := true, laidLooks := .later }
def PostFullCardSaid : Prop := Claim7.holds Tryd.pinned (.plain (OpenSpec.ofChange postFullSpec)) postFullCard

/-- THE TIED CARD OF 'joinerylaw12.PostOrder'. -/
def postOrderCard : Claim7 := { stood := { row := postOrderRow, standIns := [], harness := (true, "1237927cf8c606ba6753291d66ee8079ef9ba0763e055ec5e750b89da83dcd89"), looks := true }, kinds := [], alts := [], laidByText := true, laidKinds := [.data, .data, .data, .listed, .data], laidTests := true, laidLooks := .later }
def PostOrderCardSaid : Prop := Claim7.holds Tryd.pinned (.plain (OpenSpec.ofChange postOrderSpec)) postOrderCard

/-- THE TIED CARD OF 'joinerylaw12.PostOwn'. -/
def postOwnCard : Claim7 := { stood := { row := postOwnRow, standIns := [], harness := (true, "1237927cf8c606ba6753291d66ee8079ef9ba0763e055ec5e750b89da83dcd89"), looks := true }, kinds := [], alts := [], laidByText := true, laidKinds := [.data, .data, .data, .listed, .data], laidTests := true, laidLooks := .later }
def PostOwnCardSaid : Prop := Claim7.holds Tryd.pinned (.plain (OpenSpec.ofChange postOwnSpec)) postOwnCard

/-- THE TIED CARD OF 'joinerylaw12.PostDrain'. -/
def postDrainCard : Claim7 := { stood := { row := postDrainRow, standIns := [], harness := (true, "1237927cf8c606ba6753291d66ee8079ef9ba0763e055ec5e750b89da83dcd89"), looks := true }, kinds := [], alts := [], laidByText := true, laidKinds := [.data, .data, .data, .listed, .data], laidTests := true, laidLooks := .later }
def PostDrainCardSaid : Prop := Claim7.holds Tryd.pinned (.plain (OpenSpec.ofChange postDrainSpec)) postDrainCard

/-- THE SECOND FORM's CARD OF 'joinerylaw12.PostText'. -/
def postTextUptoCard : Claim7 := { stood := { row := postTextUptoRow, standIns := [], harness := (true, "1237927cf8c606ba6753291d66ee8079ef9ba0763e055ec5e750b89da83dcd89"), looks := true }, kinds := [], alts := [], laidByText := true, laidKinds := [.data, .data, .data, .listed, .data], laidTests := true, laidLooks := .later }
def PostTextUptoCardSaid : Prop := Claim7.holds Tryd.pinned (.plain (OpenSpec.upto postTextSpec)) postTextUptoCard

/-- THE SECOND FORM's CARD OF 'joinerylaw12.PostKnown'. -/
def postKnownUptoCard : Claim7 := { stood := { row := postKnownUptoRow, standIns := [], harness := (true, "1237927cf8c606ba6753291d66ee8079ef9ba0763e055ec5e750b89da83dcd89"), looks := true }, kinds := [], alts := [], laidByText := true, laidKinds := [.data, .data, .data, .listed, .data], laidTests := true, laidLooks := .later }
def PostKnownUptoCardSaid : Prop := Claim7.holds Tryd.pinned (.plain (OpenSpec.upto postKnownSpec)) postKnownUptoCard

/-- THE SECOND FORM's CARD OF 'joinerylaw12.PostPlays'. -/
def postPlaysUptoCard : Claim7 := { stood := { row := postPlaysUptoRow, standIns := [], harness := (true, "1237927cf8c606ba6753291d66ee8079ef9ba0763e055ec5e750b89da83dcd89"), looks := true }, kinds := [], alts := [], laidByText := true, laidKinds := [.data, .data, .data, .listed, .data], laidTests := true, laidLooks := .later }
def PostPlaysUptoCardSaid : Prop := Claim7.holds Tryd.pinned (.plain (OpenSpec.upto postPlaysSpec)) postPlaysUptoCard

/-- THE SECOND FORM's CARD OF 'joinerylaw12.PostFull'. -/
def postFullUptoCard : Claim7 := { stood := { row := postFullUptoRow, standIns := [], harness := (true, "1237927cf8c606ba6753291d66ee8079ef9ba0763e055ec5e750b89da83dcd89"), looks := true }, kinds := [], alts := [], laidByText := true, laidKinds := [.data, .data, .data, .listed, .data], laidTests := true, laidLooks := .later }
def PostFullUptoCardSaid : Prop := Claim7.holds Tryd.pinned (.plain (OpenSpec.upto postFullSpec)) postFullUptoCard

/-- THE SECOND FORM's CARD OF 'joinerylaw12.PostOrder'. -/
def postOrderUptoCard : Claim7 := { stood := { row := postOrderUptoRow, standIns := [], harness := (true, "1237927cf8c606ba6753291d66ee8079ef9ba0763e055ec5e750b89da83dcd89"), looks := true }, kinds := [], alts := [], laidByText := true, laidKinds := [.data, .data, .data, .listed, .data], laidTests := true, laidLooks := .later }
def PostOrderUptoCardSaid : Prop := Claim7.holds Tryd.pinned (.plain (OpenSpec.upto postOrderSpec)) postOrderUptoCard

/-- THE SECOND FORM's CARD OF 'joinerylaw12.PostOwn'. -/
def postOwnUptoCard : Claim7 := { stood := { row := postOwnUptoRow, standIns := [], harness := (true, "1237927cf8c606ba6753291d66ee8079ef9ba0763e055ec5e750b89da83dcd89"), looks := true }, kinds := [], alts := [], laidByText := true, laidKinds := [.data, .data, .data, .listed, .data], laidTests := true, laidLooks := .later }
def PostOwnUptoCardSaid : Prop := Claim7.holds Tryd.pinned (.plain (OpenSpec.upto postOwnSpec)) postOwnUptoCard

/-- THE SECOND FORM's CARD OF 'joinerylaw12.PostDrain'. -/
def postDrainUptoCard : Claim7 := { stood := { row := postDrainUptoRow, standIns := [], harness := (true, "1237927cf8c606ba6753291d66ee8079ef9ba0763e055ec5e750b89da83dcd89"), looks := true }, kinds := [], alts := [], laidByText := true, laidKinds := [.data, .data, .data, .listed, .data], laidTests := true, laidLooks := .later }
def PostDrainUptoCardSaid : Prop := Claim7.holds Tryd.pinned (.plain (OpenSpec.upto postDrainSpec)) postDrainUptoCard
end Rows
end Go.Proofs.YtpkkjonajimefaaDoor

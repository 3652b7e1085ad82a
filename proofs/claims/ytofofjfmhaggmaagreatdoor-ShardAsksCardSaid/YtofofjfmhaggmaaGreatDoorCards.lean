/-
  DERIVED. GIVEN WITH THE SEED: THE CARDS: each row of YtofofjfmhaggmaaGreatDoorRows.lean that lists a variable, with what it lists TIED to the program's text (the seventh form; the later family's looks); each row that meets fmt, with fmt's text TOLD by the authors' own Lean function (tested against real Go, not proved from fmt's source: count such statements apart). THE CARD IS WHAT COUNTS. Prove the row's statement (the work); the ties are given (YtofofjfmhaggmaaGreatDoorTie.lean); close each card by the builder's one call (the guide's Derived/Test/ToyasCard.lean, 'card_holds'). Laid BY PROGRAM, IN A SANDBOX (cutbox-door.mjs). By AI agents, Wed Nov 11 2026. No macro, syntax, notation, axiom, sorry.
-/
import Derived.Test.YtofofjfmhaggmaaGreatDoorRows
import GoSem.ClaimSeven
namespace Go.Proofs.YtofofjfmhaggmaaGreatDoor
namespace Rows

/-- THE TIED CARD OF 'joinerylaw10.ShardTwice'. -/
def shardTwiceCard : Claim7 := { stood := { row := shardTwiceRow, standIns := [], harness := (true, "f29e1e310fbc50af8b998951f24a833a70063ffd4a7836c65779d61c56696cc0"), looks := true }, kinds := [], alts := [], laidByText := true, laidKinds := [.data, .data, .data, .data, .data, .listed, .data, .pinned], laidTests := true, laidLooks := .later }
def ShardTwiceCardSaid : Prop := Claim7.holds Tryz.pinned (.plain (OpenSpec.ofChange shardTwiceSpec)) shardTwiceCard

/-- THE TIED CARD OF 'joinerylaw10.ShardStates'. -/
def shardStatesCard : Claim7 := { stood := { row := shardStatesRow, standIns := [], harness := (true, "f29e1e310fbc50af8b998951f24a833a70063ffd4a7836c65779d61c56696cc0"), looks := true }, kinds := [], alts := [], laidByText := true, laidKinds := [.data, .data, .data, .data, .data, .listed, .data, .pinned], laidTests := true, laidLooks := .later }
def ShardStatesCardSaid : Prop := Claim7.holds Tryz.pinned (.plain (OpenSpec.ofChange shardStatesSpec)) shardStatesCard

/-- THE TIED CARD OF 'joinerylaw10.ShardFull'. -/
def shardFullCard : Claim7 := { stood := { row := shardFullRow, standIns := [], harness := (true, "f29e1e310fbc50af8b998951f24a833a70063ffd4a7836c65779d61c56696cc0"), looks := true }, kinds := [], alts := [], laidByText := true, laidKinds := [.data, .data, .data, .data, .data, .listed, .data, .pinned], laidTests := true, laidLooks := .later }
def ShardFullCardSaid : Prop := Claim7.holds Tryz.pinned (.plain (OpenSpec.ofChange shardFullSpec)) shardFullCard

/-- THE TIED CARD OF 'joinerylaw10.ShardKeeps'. -/
def shardKeepsCard : Claim7 := { stood := { row := shardKeepsRow, standIns := [], harness := (true, "f29e1e310fbc50af8b998951f24a833a70063ffd4a7836c65779d61c56696cc0"), looks := true }, kinds := [], alts := [], laidByText := true, laidKinds := [.data, .data, .data, .data, .data, .listed, .data, .pinned], laidTests := true, laidLooks := .later }
def ShardKeepsCardSaid : Prop := Claim7.holds Tryz.pinned (.plain (OpenSpec.ofChange shardKeepsSpec)) shardKeepsCard

/-- THE TIED CARD OF 'joinerylaw10.ShardRefuses'. -/
def shardRefusesCard : Claim7 := { stood := { row := shardRefusesRow, standIns := [], harness := (true, "f29e1e310fbc50af8b998951f24a833a70063ffd4a7836c65779d61c56696cc0"), looks := true }, kinds := [], alts := [], laidByText := true, laidKinds := [.data, .data, .data, .data, .data, .listed, .data, .pinned], laidTests := true, laidLooks := .later }
def ShardRefusesCardSaid : Prop := Claim7.holds Tryz.pinned (.plain (OpenSpec.ofChange shardRefusesSpec)) shardRefusesCard

/-- THE TIED CARD OF 'joinerylaw10.ShardWrites'. -/
def shardWritesCard : Claim7 := { stood := { row := shardWritesRow, standIns := [], harness := (true, "f29e1e310fbc50af8b998951f24a833a70063ffd4a7836c65779d61c56696cc0"), looks := true }, kinds := [], alts := [], laidByText := true, laidKinds := [.data, .data, .data, .data, .data, .listed, .data, .pinned], laidTests := true, laidLooks := .later }
def ShardWritesCardSaid : Prop := Claim7.holds Tryz.pinned (.plain (OpenSpec.ofChange shardWritesSpec)) shardWritesCard

/-- THE TIED CARD OF 'joinerylaw10.ShardAsks'. -/
def shardAsksCard : Claim7 := { stood := { row := shardAsksRow, standIns := [], harness := (true, "f29e1e310fbc50af8b998951f24a833a70063ffd4a7836c65779d61c56696cc0"), looks := true }, kinds := [], alts := [], laidByText := true, laidKinds := [.data, .data, .data, .data, .data, .listed, .data, .pinned], laidTests := true, laidLooks := .later }
def ShardAsksCardSaid : Prop := Claim7.holds Tryz.pinned (.plain (OpenSpec.ofChange shardAsksSpec)) shardAsksCard

/-- THE TIED CARD OF 'joinerylaw10.ShardLease'. -/
def shardLeaseCard : Claim7 := { stood := { row := shardLeaseRow, standIns := [], harness := (true, "f29e1e310fbc50af8b998951f24a833a70063ffd4a7836c65779d61c56696cc0"), looks := true }, kinds := [], alts := [], laidByText := true, laidKinds := [.data, .data, .data, .data, .data, .listed, .data, .pinned], laidTests := true, laidLooks := .later }
def ShardLeaseCardSaid : Prop := Claim7.holds Tryz.pinned (.plain (OpenSpec.ofChange shardLeaseSpec)) shardLeaseCard

/-- THE SECOND FORM's CARD OF 'joinerylaw10.ShardTwice'. -/
def shardTwiceUptoCard : Claim7 := { stood := { row := shardTwiceUptoRow, standIns := [], harness := (true, "f29e1e310fbc50af8b998951f24a833a70063ffd4a7836c65779d61c56696cc0"), looks := true }, kinds := [], alts := [], laidByText := true, laidKinds := [.data, .data, .data, .data, .data, .listed, .data, .pinned], laidTests := true, laidLooks := .later }
def ShardTwiceUptoCardSaid : Prop := Claim7.holds Tryz.pinned (.plain (OpenSpec.upto shardTwiceSpec)) shardTwiceUptoCard

/-- THE SECOND FORM's CARD OF 'joinerylaw10.ShardStates'. -/
def shardStatesUptoCard : Claim7 := { stood := { row := shardStatesUptoRow, standIns := [], harness := (true, "f29e1e310fbc50af8b998951f24a833a70063ffd4a7836c65779d61c56696cc0"), looks := true }, kinds := [], alts := [], laidByText := true, laidKinds := [.data, .data, .data, .data, .data, .listed, .data, .pinned], laidTests := true, laidLooks := .later }
def ShardStatesUptoCardSaid : Prop := Claim7.holds Tryz.pinned (.plain (OpenSpec.upto shardStatesSpec)) shardStatesUptoCard

/-- THE SECOND FORM's CARD OF 'joinerylaw10.ShardFull'. -/
def shardFullUptoCard : Claim7 := { stood := { row := shardFullUptoRow, standIns := [], harness := (true, "f29e1e310fbc50af8b998951f24a833a70063ffd4a7836c65779d61c56696cc0"), looks := true }, kinds := [], alts := [], laidByText := true, laidKinds := [.data, .data, .data, .data, .data, .listed, .data, .pinned], laidTests := true, laidLooks := .later }
def ShardFullUptoCardSaid : Prop := Claim7.holds Tryz.pinned (.plain (OpenSpec.upto shardFullSpec)) shardFullUptoCard

/-- THE SECOND FORM's CARD OF 'joinerylaw10.ShardKeeps'. -/
def shardKeepsUptoCard : Claim7 := { stood := { row := shardKeepsUptoRow, standIns := [], harness := (true, "f29e1e310fbc50af8b998951f24a833a70063ffd4a7836c65779d61c56696cc0"), looks := true }, kinds := [], alts := [], laidByText := true, laidKinds := [.data, .data, .data, .data, .data, .listed, .data, .pinned], laidTests := true, laidLooks := .later }
def ShardKeepsUptoCardSaid : Prop := Claim7.holds Tryz.pinned (.plain (OpenSpec.upto shardKeepsSpec)) shardKeepsUptoCard

/-- THE SECOND FORM's CARD OF 'joinerylaw10.ShardRefuses'. -/
def shardRefusesUptoCard : Claim7 := { stood := { row := shardRefusesUptoRow, standIns := [], harness := (true, "f29e1e310fbc50af8b998951f24a833a70063ffd4a7836c65779d61c56696cc0"), looks := true }, kinds := [], alts := [], laidByText := true, laidKinds := [.data, .data, .data, .data, .data, .listed, .data, .pinned], laidTests := true, laidLooks := .later }
def ShardRefusesUptoCardSaid : Prop := Claim7.holds Tryz.pinned (.plain (OpenSpec.upto shardRefusesSpec)) shardRefusesUptoCard

/-- THE SECOND FORM's CARD OF 'joinerylaw10.ShardWrites'. -/
def shardWritesUptoCard : Claim7 := { stood := { row := shardWritesUptoRow, standIns := [], harness := (true, "f29e1e310fbc50af8b998951f24a833a70063ffd4a7836c65779d61c56696cc0"), looks := true }, kinds := [], alts := [], laidByText := true, laidKinds := [.data, .data, .data, .data, .data, .listed, .data, .pinned], laidTests := true, laidLooks := .later }
def ShardWritesUptoCardSaid : Prop := Claim7.holds Tryz.pinned (.plain (OpenSpec.upto shardWritesSpec)) shardWritesUptoCard

/-- THE SECOND FORM's CARD OF 'joinerylaw10.ShardAsks'. -/
def shardAsksUptoCard : Claim7 := { stood := { row := shardAsksUptoRow, standIns := [], harness := (true, "f29e1e310fbc50af8b998951f24a833a70063ffd4a7836c65779d61c56696cc0"), looks := true }, kinds := [], alts := [], laidByText := true, laidKinds := [.data, .data, .data, .data, .data, .listed, .data, .pinned], laidTests := true, laidLooks := .later }
def ShardAsksUptoCardSaid : Prop := Claim7.holds Tryz.pinned (.plain (OpenSpec.upto shardAsksSpec)) shardAsksUptoCard

/-- THE SECOND FORM's CARD OF 'joinerylaw10.ShardLease'. -/
def shardLeaseUptoCard : Claim7 := { stood := { row := shardLeaseUptoRow, standIns := [], harness := (true, "f29e1e310fbc50af8b998951f24a833a70063ffd4a7836c65779d61c56696cc0"), looks := true }, kinds := [], alts := [], laidByText := true, laidKinds := [.data, .data, .data, .data, .data, .listed, .data, .pinned], laidTests := true, laidLooks := .later }
def ShardLeaseUptoCardSaid : Prop := Claim7.holds Tryz.pinned (.plain (OpenSpec.upto shardLeaseSpec)) shardLeaseUptoCard
end Rows
end Go.Proofs.YtofofjfmhaggmaaGreatDoor

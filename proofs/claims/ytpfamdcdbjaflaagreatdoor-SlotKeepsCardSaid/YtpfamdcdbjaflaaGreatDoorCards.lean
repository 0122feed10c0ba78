/-
  DERIVED. GIVEN WITH THE SEED: THE CARDS: each row of YtpfamdcdbjaflaaGreatDoorRows.lean that lists a variable, with what it lists TIED to the program's text (the seventh form; the later family's looks); each row that meets fmt, with fmt's text TOLD by the authors' own Lean function (tested against real Go, not proved from fmt's source: count such statements apart). THE CARD IS WHAT COUNTS. Prove the row's statement (the work); the ties are given (YtpfamdcdbjaflaaGreatDoorTie.lean); close each card by the builder's one call (the guide's Derived/Test/ToyasCard.lean, 'card_holds'). Laid BY PROGRAM, IN A SANDBOX (cutbox-door.mjs). By AI agents, Wed Nov 11 2026. No macro, syntax, notation, axiom, sorry.
-/
import Derived.Test.YtpfamdcdbjaflaaGreatDoorRows
import GoSem.ClaimSeven
namespace Go.Proofs.YtpfamdcdbjaflaaGreatDoor
namespace Rows

/-- THE TIED CARD OF 'scupperlaw06.SlotNames'. -/
def slotNamesCard : Claim7 := { stood := { row := slotNamesRow, standIns := [], harness := (true, "9bed2f395871ee83892d5bbcf665627bbf0cf7f6820520039a863e02f57c29ec"), looks := true }, kinds := [], alts := [], laidByText := true, laidKinds := [.data, .data, .data, .data, .sentinel, .sentinel, .pinned], laidTests := true, laidLooks := .later }
def SlotNamesCardSaid : Prop := Claim7.holds Tryz.pinned (.plain (OpenSpec.ofChange slotNamesSpec)) slotNamesCard

/-- THE TIED CARD OF 'scupperlaw06.SlotKeeps'. -/
def slotKeepsCard : Claim7 := { stood := { row := slotKeepsRow, standIns := [], harness := (true, "9bed2f395871ee83892d5bbcf665627bbf0cf7f6820520039a863e02f57c29ec"), looks := true }, kinds := [], alts := [], laidByText := true, laidKinds := [.data, .data, .data, .data, .sentinel, .sentinel, .pinned], laidTests := true, laidLooks := .later }
def SlotKeepsCardSaid : Prop := Claim7.holds Tryz.pinned (.plain (OpenSpec.ofChange slotKeepsSpec)) slotKeepsCard

/-- THE TIED CARD OF 'scupperlaw06.SlotRoom'. -/
def slotRoomCard : Claim7 := { stood := { row := slotRoomRow, standIns := [], harness := (true, "9bed2f395871ee83892d5bbcf665627bbf0cf7f6820520039a863e02f57c29ec"), looks := true }, kinds := [], alts := [], laidByText := true, laidKinds := [.data, .data, .data, .data, .sentinel, .sentinel, .pinned], laidTests := true, laidLooks := .later }
def SlotRoomCardSaid : Prop := Claim7.holds Tryz.pinned (.plain (OpenSpec.ofChange slotRoomSpec)) slotRoomCard

/-- THE TIED CARD OF 'scupperlaw06.SlotTwo'. -/
def slotTwoCard : Claim7 := { stood := { row := slotTwoRow, standIns := [], harness := (true, "9bed2f395871ee83892d5bbcf665627bbf0cf7f6820520039a863e02f57c29ec"), looks := true }, kinds := [], alts := [], laidByText := true, laidKinds := [.data, .data, .data, .data, .sentinel, .sentinel, .pinned], laidTests := true, laidLooks := .later }
def SlotTwoCardSaid : Prop := Claim7.holds Tryz.pinned (.plain (OpenSpec.ofChange slotTwoSpec)) slotTwoCard

/-- THE TIED CARD OF 'scupperlaw06.SlotActs'. -/
def slotActsCard : Claim7 := { stood := { row := slotActsRow, standIns := [], harness := (true, "9bed2f395871ee83892d5bbcf665627bbf0cf7f6820520039a863e02f57c29ec"), looks := true }, kinds := [], alts := [], laidByText := true, laidKinds := [.data, .data, .data, .data, .sentinel, .sentinel, .pinned], laidTests := true, laidLooks := .later }
def SlotActsCardSaid : Prop := Claim7.holds Tryz.pinned (.plain (OpenSpec.ofChange slotActsSpec)) slotActsCard

/-- THE TIED CARD OF 'scupperlaw06.SlotFull'. -/
def slotFullCard : Claim7 := { stood := { row := slotFullRow, standIns := [], harness := (true, "9bed2f395871ee83892d5bbcf665627bbf0cf7f6820520039a863e02f57c29ec"), looks := true }, kinds := [], alts := [], laidByText := true, laidKinds := [.data, .data, .data, .data, .sentinel, .sentinel, .pinned], laidTests := true, laidLooks := .later }
def SlotFullCardSaid : Prop := Claim7.holds Tryz.pinned (.plain (OpenSpec.ofChange slotFullSpec)) slotFullCard

/-- THE SECOND FORM's CARD OF 'scupperlaw06.SlotNames'. -/
def slotNamesUptoCard : Claim7 := { stood := { row := slotNamesUptoRow, standIns := [], harness := (true, "9bed2f395871ee83892d5bbcf665627bbf0cf7f6820520039a863e02f57c29ec"), looks := true }, kinds := [], alts := [], laidByText := true, laidKinds := [.data, .data, .data, .data, .sentinel, .sentinel, .pinned], laidTests := true, laidLooks := .later }
def SlotNamesUptoCardSaid : Prop := Claim7.holds Tryz.pinned (.plain (OpenSpec.upto slotNamesSpec)) slotNamesUptoCard

/-- THE SECOND FORM's CARD OF 'scupperlaw06.SlotKeeps'. -/
def slotKeepsUptoCard : Claim7 := { stood := { row := slotKeepsUptoRow, standIns := [], harness := (true, "9bed2f395871ee83892d5bbcf665627bbf0cf7f6820520039a863e02f57c29ec"), looks := true }, kinds := [], alts := [], laidByText := true, laidKinds := [.data, .data, .data, .data, .sentinel, .sentinel, .pinned], laidTests := true, laidLooks := .later }
def SlotKeepsUptoCardSaid : Prop := Claim7.holds Tryz.pinned (.plain (OpenSpec.upto slotKeepsSpec)) slotKeepsUptoCard

/-- THE SECOND FORM's CARD OF 'scupperlaw06.SlotRoom'. -/
def slotRoomUptoCard : Claim7 := { stood := { row := slotRoomUptoRow, standIns := [], harness := (true, "9bed2f395871ee83892d5bbcf665627bbf0cf7f6820520039a863e02f57c29ec"), looks := true }, kinds := [], alts := [], laidByText := true, laidKinds := [.data, .data, .data, .data, .sentinel, .sentinel, .pinned], laidTests := true, laidLooks := .later }
def SlotRoomUptoCardSaid : Prop := Claim7.holds Tryz.pinned (.plain (OpenSpec.upto slotRoomSpec)) slotRoomUptoCard

/-- THE SECOND FORM's CARD OF 'scupperlaw06.SlotTwo'. -/
def slotTwoUptoCard : Claim7 := { stood := { row := slotTwoUptoRow, standIns := [], harness := (true, "9bed2f395871ee83892d5bbcf665627bbf0cf7f6820520039a863e02f57c29ec"), looks := true }, kinds := [], alts := [], laidByText := true, laidKinds := [.data, .data, .data, .data, .sentinel, .sentinel, .pinned], laidTests := true, laidLooks := .later }
def SlotTwoUptoCardSaid : Prop := Claim7.holds Tryz.pinned (.plain (OpenSpec.upto slotTwoSpec)) slotTwoUptoCard

/-- THE SECOND FORM's CARD OF 'scupperlaw06.SlotActs'. -/
def slotActsUptoCard : Claim7 := { stood := { row := slotActsUptoRow, standIns := [], harness := (true, "9bed2f395871ee83892d5bbcf665627bbf0cf7f6820520039a863e02f57c29ec"), looks := true }, kinds := [], alts := [], laidByText := true, laidKinds := [.data, .data, .data, .data, .sentinel, .sentinel, .pinned], laidTests := true, laidLooks := .later }
def SlotActsUptoCardSaid : Prop := Claim7.holds Tryz.pinned (.plain (OpenSpec.upto slotActsSpec)) slotActsUptoCard

/-- THE SECOND FORM's CARD OF 'scupperlaw06.SlotFull'. -/
def slotFullUptoCard : Claim7 := { stood := { row := slotFullUptoRow, standIns := [], harness := (true, "9bed2f395871ee83892d5bbcf665627bbf0cf7f6820520039a863e02f57c29ec"), looks := true }, kinds := [], alts := [], laidByText := true, laidKinds := [.data, .data, .data, .data, .sentinel, .sentinel, .pinned], laidTests := true, laidLooks := .later }
def SlotFullUptoCardSaid : Prop := Claim7.holds Tryz.pinned (.plain (OpenSpec.upto slotFullSpec)) slotFullUptoCard
end Rows
end Go.Proofs.YtpfamdcdbjaflaaGreatDoor

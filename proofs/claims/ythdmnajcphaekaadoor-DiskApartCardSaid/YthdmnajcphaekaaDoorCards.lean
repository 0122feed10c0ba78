/-
  DERIVED. GIVEN WITH THE SEED: THE CARDS: each row of YthdmnajcphaekaaDoorRows.lean that lists a variable, with what it lists TIED to the program's text (the seventh form; the later family's looks); each row that meets fmt, with fmt's text TOLD by the authors' own Lean function (tested against real Go, not proved from fmt's source: count such statements apart). THE CARD IS WHAT COUNTS. Prove the row's statement (the work); the ties are given (YthdmnajcphaekaaDoorTie.lean); close each card by the builder's one call (the guide's Derived/Test/ToyasCard.lean, 'card_holds'). Laid BY PROGRAM, IN A SANDBOX (cutbox-door.mjs). By AI agents, Wed Nov 11 2026. No macro, syntax, notation, axiom, sorry.
-/
import Derived.Test.YthdmnajcphaekaaDoorRows
import GoSem.ClaimSeven
namespace Go.Proofs.YthdmnajcphaekaaDoor
namespace Rows

/-- THE TIED CARD OF 'scupperlaw04.DiskRoom'. -/
def diskRoomCard : Claim7 := { stood := { row := diskRoomRow, standIns := [], harness := (true, "f01646987390c12928db1a0cd5dc3ab093faf668301bb570e6a074a853549bb6"), looks := false }, kinds := [], alts := [], laidByText := true, laidKinds := [.data, .pinned], laidTests := true, laidLooks := .later }
def DiskRoomCardSaid : Prop := Claim7.holds Tryd.pinned (.plain (OpenSpec.ofChange diskRoomSpec)) diskRoomCard

/-- THE TIED CARD OF 'scupperlaw04.DiskLoses'. -/
def diskLosesCard : Claim7 := { stood := { row := diskLosesRow, standIns := [], harness := (true, "f01646987390c12928db1a0cd5dc3ab093faf668301bb570e6a074a853549bb6"), looks := false }, kinds := [], alts := [], laidByText := true, laidKinds := [.data, .pinned], laidTests := true, laidLooks := .later }
def DiskLosesCardSaid : Prop := Claim7.holds Tryd.pinned (.plain (OpenSpec.ofChange diskLosesSpec)) diskLosesCard

/-- THE TIED CARD OF 'scupperlaw04.DiskSyncs'. -/
def diskSyncsCard : Claim7 := { stood := { row := diskSyncsRow, standIns := [], harness := (true, "f01646987390c12928db1a0cd5dc3ab093faf668301bb570e6a074a853549bb6"), looks := false }, kinds := [], alts := [], laidByText := true, laidKinds := [.data, .pinned], laidTests := true, laidLooks := .later }
def DiskSyncsCardSaid : Prop := Claim7.holds Tryd.pinned (.plain (OpenSpec.ofChange diskSyncsSpec)) diskSyncsCard

/-- THE TIED CARD OF 'scupperlaw04.DiskActs'. -/
def diskActsCard : Claim7 := { stood := { row := diskActsRow, standIns := [], harness := (true, "f01646987390c12928db1a0cd5dc3ab093faf668301bb570e6a074a853549bb6"), looks := false }, kinds := [], alts := [], laidByText := true, laidKinds := [.data, .pinned], laidTests := true, laidLooks := .later }
def DiskActsCardSaid : Prop := Claim7.holds Tryd.pinned (.plain (OpenSpec.ofChange diskActsSpec)) diskActsCard

/-- THE TIED CARD OF 'scupperlaw04.DiskApart'. -/
def diskApartCard : Claim7 := { stood := { row := diskApartRow, standIns := [], harness := (true, "f01646987390c12928db1a0cd5dc3ab093faf668301bb570e6a074a853549bb6"), looks := false }, kinds := [], alts := [], laidByText := true, laidKinds := [.data, .pinned], laidTests := true, laidLooks := .later }
def DiskApartCardSaid : Prop := Claim7.holds Tryd.pinned (.plain (OpenSpec.ofChange diskApartSpec)) diskApartCard

/-- THE TIED CARD OF 'scupperlaw04.DiskNil'. -/
def diskNilCard : Claim7 := { stood := { row := diskNilRow, standIns := [], harness := (true, "f01646987390c12928db1a0cd5dc3ab093faf668301bb570e6a074a853549bb6"), looks := false }, kinds := [], alts := [], laidByText := true, laidKinds := [.data, .pinned], laidTests := true, laidLooks := .later }
def DiskNilCardSaid : Prop := Claim7.holds Tryd.pinned (.plain (OpenSpec.ofChange diskNilSpec)) diskNilCard

/-- THE TIED CARD OF 'scupperlaw04.DiskSwaps'. -/
def diskSwapsCard : Claim7 := { stood := { row := diskSwapsRow, standIns := [], harness := (true, "f01646987390c12928db1a0cd5dc3ab093faf668301bb570e6a074a853549bb6"), looks := false }, kinds := [], alts := [], laidByText := true, laidKinds := [.data, .pinned], laidTests := true, laidLooks := .later }
def DiskSwapsCardSaid : Prop := Claim7.holds Tryd.pinned (.plain (OpenSpec.ofChange diskSwapsSpec)) diskSwapsCard

/-- THE SECOND FORM's CARD OF 'scupperlaw04.DiskRoom'. -/
def diskRoomUptoCard : Claim7 := { stood := { row := diskRoomUptoRow, standIns := [], harness := (true, "f01646987390c12928db1a0cd5dc3ab093faf668301bb570e6a074a853549bb6"), looks := false }, kinds := [], alts := [], laidByText := true, laidKinds := [.data, .pinned], laidTests := true, laidLooks := .later }
def DiskRoomUptoCardSaid : Prop := Claim7.holds Tryd.pinned (.plain (OpenSpec.upto diskRoomSpec)) diskRoomUptoCard

/-- THE SECOND FORM's CARD OF 'scupperlaw04.DiskLoses'. -/
def diskLosesUptoCard : Claim7 := { stood := { row := diskLosesUptoRow, standIns := [], harness := (true, "f01646987390c12928db1a0cd5dc3ab093faf668301bb570e6a074a853549bb6"), looks := false }, kinds := [], alts := [], laidByText := true, laidKinds := [.data, .pinned], laidTests := true, laidLooks := .later }
def DiskLosesUptoCardSaid : Prop := Claim7.holds Tryd.pinned (.plain (OpenSpec.upto diskLosesSpec)) diskLosesUptoCard

/-- THE SECOND FORM's CARD OF 'scupperlaw04.DiskSyncs'. -/
def diskSyncsUptoCard : Claim7 := { stood := { row := diskSyncsUptoRow, standIns := [], harness := (true, "f01646987390c12928db1a0cd5dc3ab093faf668301bb570e6a074a853549bb6"), looks := false }, kinds := [], alts := [], laidByText := true, laidKinds := [.data, .pinned], laidTests := true, laidLooks := .later }
def DiskSyncsUptoCardSaid : Prop := Claim7.holds Tryd.pinned (.plain (OpenSpec.upto diskSyncsSpec)) diskSyncsUptoCard

/-- THE SECOND FORM's CARD OF 'scupperlaw04.DiskActs'. -/
def diskActsUptoCard : Claim7 := { stood := { row := diskActsUptoRow, standIns := [], harness := (true, "f01646987390c12928db1a0cd5dc3ab093faf668301bb570e6a074a853549bb6"), looks := false }, kinds := [], alts := [], laidByText := true, laidKinds := [.data, .pinned], laidTests := true, laidLooks := .later }
def DiskActsUptoCardSaid : Prop := Claim7.holds Tryd.pinned (.plain (OpenSpec.upto diskActsSpec)) diskActsUptoCard

/-- THE SECOND FORM's CARD OF 'scupperlaw04.DiskApart'. -/
def diskApartUptoCard : Claim7 := { stood := { row := diskApartUptoRow, standIns := [], harness := (true, "f01646987390c12928db1a0cd5dc3ab093faf668301bb570e6a074a853549bb6"), looks := false }, kinds := [], alts := [], laidByText := true, laidKinds := [.data, .pinned], laidTests := true, laidLooks := .later }
def DiskApartUptoCardSaid : Prop := Claim7.holds Tryd.pinned (.plain (OpenSpec.upto diskApartSpec)) diskApartUptoCard

/-- THE SECOND FORM's CARD OF 'scupperlaw04.DiskNil'. -/
def diskNilUptoCard : Claim7 := { stood := { row := diskNilUptoRow, standIns := [], harness := (true, "f01646987390c12928db1a0cd5dc3ab093faf668301bb570e6a074a853549bb6"), looks := false }, kinds := [], alts := [], laidByText := true, laidKinds := [.data, .pinned], laidTests := true, laidLooks := .later }
def DiskNilUptoCardSaid : Prop := Claim7.holds Tryd.pinned (.plain (OpenSpec.upto diskNilSpec)) diskNilUptoCard

/-- THE SECOND FORM's CARD OF 'scupperlaw04.DiskSwaps'. -/
def diskSwapsUptoCard : Claim7 := { stood := { row := diskSwapsUptoRow, standIns := [], harness := (true, "f01646987390c12928db1a0cd5dc3ab093faf668301bb570e6a074a853549bb6"), looks := false }, kinds := [], alts := [], laidByText := true, laidKinds := [.data, .pinned], laidTests := true, laidLooks := .later }
def DiskSwapsUptoCardSaid : Prop := Claim7.holds Tryd.pinned (.plain (OpenSpec.upto diskSwapsSpec)) diskSwapsUptoCard
end Rows
end Go.Proofs.YthdmnajcphaekaaDoor

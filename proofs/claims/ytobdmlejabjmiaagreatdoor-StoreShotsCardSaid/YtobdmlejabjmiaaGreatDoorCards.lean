/-
  DERIVED. GIVEN WITH THE SEED: THE CARDS: each row of YtobdmlejabjmiaaGreatDoorRows.lean that lists a variable, with what it lists TIED to the program's text (the seventh form; the later family's looks); each row that meets fmt, with fmt's text TOLD by the authors' own Lean function (tested against real Go, not proved from fmt's source: count such statements apart). THE CARD IS WHAT COUNTS. Prove the row's statement (the work); the ties are given (YtobdmlejabjmiaaGreatDoorTie.lean); close each card by the builder's one call (the guide's Derived/Test/ToyasCard.lean, 'card_holds'). Laid BY PROGRAM, IN A SANDBOX (cutbox-door.mjs). By AI agents, Wed Nov 11 2026. No macro, syntax, notation, axiom, sorry.
-/
import Derived.Test.YtobdmlejabjmiaaGreatDoorRows
import GoSem.ClaimSeven
namespace Go.Proofs.YtobdmlejabjmiaaGreatDoor
namespace Rows

/-- THE TIED CARD OF 'scupperlaw16.StoreAgain'. -/
def storeAgainCard : Claim7 := { stood := { row := storeAgainRow, standIns := [], harness := (true, "cebd46aa283997a9111e8d859b8b5a837ea7141760cd919db683da1a9cf7d61e"), looks := true }, kinds := [], alts := [], laidByText := true, laidKinds := [.data, .data, .data, .data, .sentinel, .sentinel, .pinned], laidTests := true, laidLooks := .later }
def StoreAgainCardSaid : Prop := Claim7.holds Tryz.pinned (.plain (OpenSpec.ofChange storeAgainSpec)) storeAgainCard

/-- THE TIED CARD OF 'scupperlaw16.StoreNil'. -/
def storeNilCard : Claim7 := { stood := { row := storeNilRow, standIns := [], harness := (true, "cebd46aa283997a9111e8d859b8b5a837ea7141760cd919db683da1a9cf7d61e"), looks := true }, kinds := [], alts := [], laidByText := true, laidKinds := [.data, .data, .data, .data, .sentinel, .sentinel, .pinned], laidTests := true, laidLooks := .later }
def StoreNilCardSaid : Prop := Claim7.holds Tryz.pinned (.plain (OpenSpec.ofChange storeNilSpec)) storeNilCard

/-- THE TIED CARD OF 'scupperlaw16.StoreShots'. -/
def storeShotsCard : Claim7 := { stood := { row := storeShotsRow, standIns := [], harness := (true, "cebd46aa283997a9111e8d859b8b5a837ea7141760cd919db683da1a9cf7d61e"), looks := true }, kinds := [], alts := [], laidByText := true, laidKinds := [.data, .data, .data, .data, .sentinel, .sentinel, .pinned], laidTests := true, laidLooks := .later }
def StoreShotsCardSaid : Prop := Claim7.holds Tryz.pinned (.plain (OpenSpec.ofChange storeShotsSpec)) storeShotsCard

/-- THE TIED CARD OF 'scupperlaw16.StoreVotes'. -/
def storeVotesCard : Claim7 := { stood := { row := storeVotesRow, standIns := [], harness := (true, "cebd46aa283997a9111e8d859b8b5a837ea7141760cd919db683da1a9cf7d61e"), looks := true }, kinds := [], alts := [], laidByText := true, laidKinds := [.data, .data, .data, .data, .sentinel, .sentinel, .pinned], laidTests := true, laidLooks := .later }
def StoreVotesCardSaid : Prop := Claim7.holds Tryz.pinned (.plain (OpenSpec.ofChange storeVotesSpec)) storeVotesCard

/-- THE SECOND FORM's CARD OF 'scupperlaw16.StoreAgain'. -/
def storeAgainUptoCard : Claim7 := { stood := { row := storeAgainUptoRow, standIns := [], harness := (true, "cebd46aa283997a9111e8d859b8b5a837ea7141760cd919db683da1a9cf7d61e"), looks := true }, kinds := [], alts := [], laidByText := true, laidKinds := [.data, .data, .data, .data, .sentinel, .sentinel, .pinned], laidTests := true, laidLooks := .later }
def StoreAgainUptoCardSaid : Prop := Claim7.holds Tryz.pinned (.plain (OpenSpec.upto storeAgainSpec)) storeAgainUptoCard

/-- THE SECOND FORM's CARD OF 'scupperlaw16.StoreNil'. -/
def storeNilUptoCard : Claim7 := { stood := { row := storeNilUptoRow, standIns := [], harness := (true, "cebd46aa283997a9111e8d859b8b5a837ea7141760cd919db683da1a9cf7d61e"), looks := true }, kinds := [], alts := [], laidByText := true, laidKinds := [.data, .data, .data, .data, .sentinel, .sentinel, .pinned], laidTests := true, laidLooks := .later }
def StoreNilUptoCardSaid : Prop := Claim7.holds Tryz.pinned (.plain (OpenSpec.upto storeNilSpec)) storeNilUptoCard

/-- THE SECOND FORM's CARD OF 'scupperlaw16.StoreShots'. -/
def storeShotsUptoCard : Claim7 := { stood := { row := storeShotsUptoRow, standIns := [], harness := (true, "cebd46aa283997a9111e8d859b8b5a837ea7141760cd919db683da1a9cf7d61e"), looks := true }, kinds := [], alts := [], laidByText := true, laidKinds := [.data, .data, .data, .data, .sentinel, .sentinel, .pinned], laidTests := true, laidLooks := .later }
def StoreShotsUptoCardSaid : Prop := Claim7.holds Tryz.pinned (.plain (OpenSpec.upto storeShotsSpec)) storeShotsUptoCard

/-- THE SECOND FORM's CARD OF 'scupperlaw16.StoreVotes'. -/
def storeVotesUptoCard : Claim7 := { stood := { row := storeVotesUptoRow, standIns := [], harness := (true, "cebd46aa283997a9111e8d859b8b5a837ea7141760cd919db683da1a9cf7d61e"), looks := true }, kinds := [], alts := [], laidByText := true, laidKinds := [.data, .data, .data, .data, .sentinel, .sentinel, .pinned], laidTests := true, laidLooks := .later }
def StoreVotesUptoCardSaid : Prop := Claim7.holds Tryz.pinned (.plain (OpenSpec.upto storeVotesSpec)) storeVotesUptoCard
end Rows
end Go.Proofs.YtobdmlejabjmiaaGreatDoor

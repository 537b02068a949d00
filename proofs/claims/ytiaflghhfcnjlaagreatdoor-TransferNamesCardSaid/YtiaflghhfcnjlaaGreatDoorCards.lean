/-
  DERIVED. GIVEN WITH THE SEED: THE CARDS: each row of YtiaflghhfcnjlaaGreatDoorRows.lean that lists a variable, with what it lists TIED to the program's text (the seventh form; the later family's looks); each row that meets fmt, with fmt's text TOLD by the authors' own Lean function (tested against real Go, not proved from fmt's source: count such statements apart). THE CARD IS WHAT COUNTS. Prove the row's statement (the work); the ties are given (YtiaflghhfcnjlaaGreatDoorTie.lean); close each card by the builder's one call (the guide's Derived/Test/ToyasCard.lean, 'card_holds'). Laid BY PROGRAM, IN A SANDBOX (cutbox-door.mjs). By AI agents, Wed Nov 11 2026. No macro, syntax, notation, axiom, sorry.
-/
import Derived.Test.YtiaflghhfcnjlaaGreatDoorRows
import GoSem.ClaimSeven
namespace Go.Proofs.YtiaflghhfcnjlaaGreatDoor
namespace Rows

/-- THE TIED CARD OF 'twinspanlaw17.TransferApart'. -/
def transferApartCard : Claim7 := { stood := { row := transferApartRow, standIns := [], harness := (true, "8b2e7b77f71401b8ab2faa7cb31051381d295518914a6249bc53950ba00a62fd"), looks := false }, kinds := [], alts := [], laidByText := true, laidKinds := [.data, .pinned], laidTests := true, laidLooks := .later }
def TransferApartCardSaid : Prop := Claim7.holds Tryz.pinned (.plain (OpenSpec.ofChange transferApartSpec)) transferApartCard

/-- THE TIED CARD OF 'twinspanlaw17.TransferNames'. -/
def transferNamesCard : Claim7 := { stood := { row := transferNamesRow, standIns := [], harness := (true, "8b2e7b77f71401b8ab2faa7cb31051381d295518914a6249bc53950ba00a62fd"), looks := false }, kinds := [], alts := [], laidByText := true, laidKinds := [.data, .pinned], laidTests := true, laidLooks := .later }
def TransferNamesCardSaid : Prop := Claim7.holds Tryz.pinned (.plain (OpenSpec.ofChange transferNamesSpec)) transferNamesCard

/-- THE TIED CARD OF 'twinspanlaw17.TransferPlays'. -/
def transferPlaysCard : Claim7 := { stood := { row := transferPlaysRow, standIns := [], harness := (true, "8b2e7b77f71401b8ab2faa7cb31051381d295518914a6249bc53950ba00a62fd"), looks := false }, kinds := [], alts := [], laidByText := true, laidKinds := [.data, .pinned], laidTests := true, laidLooks := .later }
def TransferPlaysCardSaid : Prop := Claim7.holds Tryz.pinned (.plain (OpenSpec.ofChange transferPlaysSpec)) transferPlaysCard

/-- THE TIED CARD OF 'twinspanlaw17.TransferEscrow'. -/
def transferEscrowCard : Claim7 := { stood := { row := transferEscrowRow, standIns := [], harness := (true, "8b2e7b77f71401b8ab2faa7cb31051381d295518914a6249bc53950ba00a62fd"), looks := false }, kinds := [], alts := [], laidByText := true, laidKinds := [.data, .pinned], laidTests := true, laidLooks := .later }
def TransferEscrowCardSaid : Prop := Claim7.holds Tryz.pinned (.plain (OpenSpec.ofChange transferEscrowSpec)) transferEscrowCard

/-- THE TIED CARD OF 'twinspanlaw17.TransferRound'. -/
def transferRoundCard : Claim7 := { stood := { row := transferRoundRow, standIns := [], harness := (true, "8b2e7b77f71401b8ab2faa7cb31051381d295518914a6249bc53950ba00a62fd"), looks := false }, kinds := [], alts := [], laidByText := true, laidKinds := [.data, .pinned], laidTests := true, laidLooks := .later }
def TransferRoundCardSaid : Prop := Claim7.holds Tryz.pinned (.plain (OpenSpec.ofChange transferRoundSpec)) transferRoundCard

/-- THE TIED CARD OF 'twinspanlaw17.TransferBack'. -/
def transferBackCard : Claim7 := { stood := { row := transferBackRow, standIns := [], harness := (true, "8b2e7b77f71401b8ab2faa7cb31051381d295518914a6249bc53950ba00a62fd"), looks := false }, kinds := [], alts := [], laidByText := true, laidKinds := [.data, .pinned], laidTests := true, laidLooks := .later }
def TransferBackCardSaid : Prop := Claim7.holds Tryz.pinned (.plain (OpenSpec.ofChange transferBackSpec)) transferBackCard

/-- THE SECOND FORM's CARD OF 'twinspanlaw17.TransferApart'. -/
def transferApartUptoCard : Claim7 := { stood := { row := transferApartUptoRow, standIns := [], harness := (true, "8b2e7b77f71401b8ab2faa7cb31051381d295518914a6249bc53950ba00a62fd"), looks := false }, kinds := [], alts := [], laidByText := true, laidKinds := [.data, .pinned], laidTests := true, laidLooks := .later }
def TransferApartUptoCardSaid : Prop := Claim7.holds Tryz.pinned (.plain (OpenSpec.upto transferApartSpec)) transferApartUptoCard

/-- THE SECOND FORM's CARD OF 'twinspanlaw17.TransferNames'. -/
def transferNamesUptoCard : Claim7 := { stood := { row := transferNamesUptoRow, standIns := [], harness := (true, "8b2e7b77f71401b8ab2faa7cb31051381d295518914a6249bc53950ba00a62fd"), looks := false }, kinds := [], alts := [], laidByText := true, laidKinds := [.data, .pinned], laidTests := true, laidLooks := .later }
def TransferNamesUptoCardSaid : Prop := Claim7.holds Tryz.pinned (.plain (OpenSpec.upto transferNamesSpec)) transferNamesUptoCard

/-- THE SECOND FORM's CARD OF 'twinspanlaw17.TransferPlays'. -/
def transferPlaysUptoCard : Claim7 := { stood := { row := transferPlaysUptoRow, standIns := [], harness := (true, "8b2e7b77f71401b8ab2faa7cb31051381d295518914a6249bc53950ba00a62fd"), looks := false }, kinds := [], alts := [], laidByText := true, laidKinds := [.data, .pinned], laidTests := true, laidLooks := .later }
def TransferPlaysUptoCardSaid : Prop := Claim7.holds Tryz.pinned (.plain (OpenSpec.upto transferPlaysSpec)) transferPlaysUptoCard

/-- THE SECOND FORM's CARD OF 'twinspanlaw17.TransferEscrow'. -/
def transferEscrowUptoCard : Claim7 := { stood := { row := transferEscrowUptoRow, standIns := [], harness := (true, "8b2e7b77f71401b8ab2faa7cb31051381d295518914a6249bc53950ba00a62fd"), looks := false }, kinds := [], alts := [], laidByText := true, laidKinds := [.data, .pinned], laidTests := true, laidLooks := .later }
def TransferEscrowUptoCardSaid : Prop := Claim7.holds Tryz.pinned (.plain (OpenSpec.upto transferEscrowSpec)) transferEscrowUptoCard

/-- THE SECOND FORM's CARD OF 'twinspanlaw17.TransferRound'. -/
def transferRoundUptoCard : Claim7 := { stood := { row := transferRoundUptoRow, standIns := [], harness := (true, "8b2e7b77f71401b8ab2faa7cb31051381d295518914a6249bc53950ba00a62fd"), looks := false }, kinds := [], alts := [], laidByText := true, laidKinds := [.data, .pinned], laidTests := true, laidLooks := .later }
def TransferRoundUptoCardSaid : Prop := Claim7.holds Tryz.pinned (.plain (OpenSpec.upto transferRoundSpec)) transferRoundUptoCard

/-- THE SECOND FORM's CARD OF 'twinspanlaw17.TransferBack'. -/
def transferBackUptoCard : Claim7 := { stood := { row := transferBackUptoRow, standIns := [], harness := (true, "8b2e7b77f71401b8ab2faa7cb31051381d295518914a6249bc53950ba00a62fd"), looks := false }, kinds := [], alts := [], laidByText := true, laidKinds := [.data, .pinned], laidTests := true, laidLooks := .later }
def TransferBackUptoCardSaid : Prop := Claim7.holds Tryz.pinned (.plain (OpenSpec.upto transferBackSpec)) transferBackUptoCard
end Rows
end Go.Proofs.YtiaflghhfcnjlaaGreatDoor

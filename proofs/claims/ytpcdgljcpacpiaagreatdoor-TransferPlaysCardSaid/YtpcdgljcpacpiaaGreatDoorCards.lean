/-
  DERIVED. GIVEN WITH THE SEED: THE CARDS: each row of YtpcdgljcpacpiaaGreatDoorRows.lean that lists a variable, with what it lists TIED to the program's text (the seventh form; the later family's looks); each row that meets fmt, with fmt's text TOLD by the authors' own Lean function (tested against real Go, not proved from fmt's source: count such statements apart). THE CARD IS WHAT COUNTS. Prove the row's statement (the work); the ties are given (YtpcdgljcpacpiaaGreatDoorTie.lean); close each card by the builder's one call (the guide's Derived/Test/ToyasCard.lean, 'card_holds'). Laid BY PROGRAM, IN A SANDBOX (cutbox-door.mjs). By AI agents, Wed Nov 11 2026. No macro, syntax, notation, axiom, sorry.
-/
import Derived.Test.YtpcdgljcpacpiaaGreatDoorRows
import GoSem.ClaimSeven
namespace Go.Proofs.YtpcdgljcpacpiaaGreatDoor
namespace Rows

/-- THE TIED CARD OF 'twinspanlaw17.TransferPlays'. -/
def transferPlaysCard : Claim7 := { stood := { row := transferPlaysRow, standIns := [], harness := (true, "051539f8220598a69dea5424f1009a52ed34c660ff847ef111e52911038b993f"), looks := false }, kinds := [], alts := [], laidByText := true, laidKinds := [.data, .pinned], laidTests := true, laidLooks := .later }
def TransferPlaysCardSaid : Prop := Claim7.holds Tryz.pinned (.plain (OpenSpec.ofChange transferPlaysSpec)) transferPlaysCard

/-- THE TIED CARD OF 'twinspanlaw17.TransferEscrow'. -/
def transferEscrowCard : Claim7 := { stood := { row := transferEscrowRow, standIns := [], harness := (true, "051539f8220598a69dea5424f1009a52ed34c660ff847ef111e52911038b993f"), looks := false }, kinds := [], alts := [], laidByText := true, laidKinds := [.data, .pinned], laidTests := true, laidLooks := .later }
def TransferEscrowCardSaid : Prop := Claim7.holds Tryz.pinned (.plain (OpenSpec.ofChange transferEscrowSpec)) transferEscrowCard

/-- THE TIED CARD OF 'twinspanlaw17.TransferRound'. -/
def transferRoundCard : Claim7 := { stood := { row := transferRoundRow, standIns := [], harness := (true, "051539f8220598a69dea5424f1009a52ed34c660ff847ef111e52911038b993f"), looks := false }, kinds := [], alts := [], laidByText := true, laidKinds := [.data, .pinned], laidTests := true, laidLooks := .later }
def TransferRoundCardSaid : Prop := Claim7.holds Tryz.pinned (.plain (OpenSpec.ofChange transferRoundSpec)) transferRoundCard

/-- THE SECOND FORM's CARD OF 'twinspanlaw17.TransferPlays'. -/
def transferPlaysUptoCard : Claim7 := { stood := { row := transferPlaysUptoRow, standIns := [], harness := (true, "051539f8220598a69dea5424f1009a52ed34c660ff847ef111e52911038b993f"), looks := false }, kinds := [], alts := [], laidByText := true, laidKinds := [.data, .pinned], laidTests := true, laidLooks := .later }
def TransferPlaysUptoCardSaid : Prop := Claim7.holds Tryz.pinned (.plain (OpenSpec.upto transferPlaysSpec)) transferPlaysUptoCard

/-- THE SECOND FORM's CARD OF 'twinspanlaw17.TransferEscrow'. -/
def transferEscrowUptoCard : Claim7 := { stood := { row := transferEscrowUptoRow, standIns := [], harness := (true, "051539f8220598a69dea5424f1009a52ed34c660ff847ef111e52911038b993f"), looks := false }, kinds := [], alts := [], laidByText := true, laidKinds := [.data, .pinned], laidTests := true, laidLooks := .later }
def TransferEscrowUptoCardSaid : Prop := Claim7.holds Tryz.pinned (.plain (OpenSpec.upto transferEscrowSpec)) transferEscrowUptoCard

/-- THE SECOND FORM's CARD OF 'twinspanlaw17.TransferRound'. -/
def transferRoundUptoCard : Claim7 := { stood := { row := transferRoundUptoRow, standIns := [], harness := (true, "051539f8220598a69dea5424f1009a52ed34c660ff847ef111e52911038b993f"), looks := false }, kinds := [], alts := [], laidByText := true, laidKinds := [.data, .pinned], laidTests := true, laidLooks := .later }
def TransferRoundUptoCardSaid : Prop := Claim7.holds Tryz.pinned (.plain (OpenSpec.upto transferRoundSpec)) transferRoundUptoCard
end Rows
end Go.Proofs.YtpcdgljcpacpiaaGreatDoor

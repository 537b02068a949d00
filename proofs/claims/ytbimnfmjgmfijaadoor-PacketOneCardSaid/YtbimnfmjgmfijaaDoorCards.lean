/-
  DERIVED. GIVEN WITH THE SEED: THE CARDS: each row of YtbimnfmjgmfijaaDoorRows.lean that lists a variable, with what it lists TIED to the program's text (the seventh form; the later family's looks); each row that meets fmt, with fmt's text TOLD by the authors' own Lean function (tested against real Go, not proved from fmt's source: count such statements apart). THE CARD IS WHAT COUNTS. Prove the row's statement (the work); the ties are given (YtbimnfmjgmfijaaDoorTie.lean); close each card by the builder's one call (the guide's Derived/Test/ToyasCard.lean, 'card_holds'). Laid BY PROGRAM, IN A SANDBOX (cutbox-door.mjs). By AI agents, Wed Nov 11 2026. No macro, syntax, notation, axiom, sorry.
-/
import Derived.Test.YtbimnfmjgmfijaaDoorRows
import GoSem.ClaimSeven
namespace Go.Proofs.YtbimnfmjgmfijaaDoor
namespace Rows

/-- THE TIED CARD OF 'twinspanlaw13.PacketReads'. -/
def packetReadsCard : Claim7 := { stood := { row := packetReadsRow, standIns := [], harness := (true, "eb9a87301a51e22a44faada3b697389bc4978e58463692ed7ac9c947f4e08816"), looks := false }, kinds := [], alts := [], laidByText := true, laidKinds := [.data, .pinned], laidTests := true, laidLooks := .later }
def PacketReadsCardSaid : Prop := Claim7.holds Tryd.pinned (.plain (OpenSpec.ofChange packetReadsSpec)) packetReadsCard

/-- THE TIED CARD OF 'twinspanlaw13.PacketBack'. -/
def packetBackCard : Claim7 := { stood := { row := packetBackRow, standIns := [], harness := (true, "eb9a87301a51e22a44faada3b697389bc4978e58463692ed7ac9c947f4e08816"), looks := false }, kinds := [], alts := [], laidByText := true, laidKinds := [.data, .pinned], laidTests := true, laidLooks := .later }
def PacketBackCardSaid : Prop := Claim7.holds Tryd.pinned (.plain (OpenSpec.ofChange packetBackSpec)) packetBackCard

/-- THE TIED CARD OF 'twinspanlaw13.PacketTells'. -/
def packetTellsCard : Claim7 := { stood := { row := packetTellsRow, standIns := [], harness := (true, "eb9a87301a51e22a44faada3b697389bc4978e58463692ed7ac9c947f4e08816"), looks := false }, kinds := [], alts := [], laidByText := true, laidKinds := [.data, .data, .data, .pinned], laidTests := true, laidLooks := .later }
def PacketTellsCardSaid : Prop := Claim7.holds Tryd.pinned (.plain (OpenSpec.ofChange packetTellsSpec)) packetTellsCard

/-- THE TIED CARD OF 'twinspanlaw13.PacketOne'. -/
def packetOneCard : Claim7 := { stood := { row := packetOneRow, standIns := [], harness := (true, "eb9a87301a51e22a44faada3b697389bc4978e58463692ed7ac9c947f4e08816"), looks := false }, kinds := [], alts := [], laidByText := true, laidKinds := [.data, .data, .data, .pinned], laidTests := true, laidLooks := .later }
def PacketOneCardSaid : Prop := Claim7.holds Tryd.pinned (.plain (OpenSpec.ofChange packetOneSpec)) packetOneCard

/-- THE SECOND FORM's CARD OF 'twinspanlaw13.PacketReads'. -/
def packetReadsUptoCard : Claim7 := { stood := { row := packetReadsUptoRow, standIns := [], harness := (true, "eb9a87301a51e22a44faada3b697389bc4978e58463692ed7ac9c947f4e08816"), looks := false }, kinds := [], alts := [], laidByText := true, laidKinds := [.data, .pinned], laidTests := true, laidLooks := .later }
def PacketReadsUptoCardSaid : Prop := Claim7.holds Tryd.pinned (.plain (OpenSpec.upto packetReadsSpec)) packetReadsUptoCard

/-- THE SECOND FORM's CARD OF 'twinspanlaw13.PacketBack'. -/
def packetBackUptoCard : Claim7 := { stood := { row := packetBackUptoRow, standIns := [], harness := (true, "eb9a87301a51e22a44faada3b697389bc4978e58463692ed7ac9c947f4e08816"), looks := false }, kinds := [], alts := [], laidByText := true, laidKinds := [.data, .pinned], laidTests := true, laidLooks := .later }
def PacketBackUptoCardSaid : Prop := Claim7.holds Tryd.pinned (.plain (OpenSpec.upto packetBackSpec)) packetBackUptoCard

/-- THE SECOND FORM's CARD OF 'twinspanlaw13.PacketTells'. -/
def packetTellsUptoCard : Claim7 := { stood := { row := packetTellsUptoRow, standIns := [], harness := (true, "eb9a87301a51e22a44faada3b697389bc4978e58463692ed7ac9c947f4e08816"), looks := false }, kinds := [], alts := [], laidByText := true, laidKinds := [.data, .data, .data, .pinned], laidTests := true, laidLooks := .later }
def PacketTellsUptoCardSaid : Prop := Claim7.holds Tryd.pinned (.plain (OpenSpec.upto packetTellsSpec)) packetTellsUptoCard

/-- THE SECOND FORM's CARD OF 'twinspanlaw13.PacketOne'. -/
def packetOneUptoCard : Claim7 := { stood := { row := packetOneUptoRow, standIns := [], harness := (true, "eb9a87301a51e22a44faada3b697389bc4978e58463692ed7ac9c947f4e08816"), looks := false }, kinds := [], alts := [], laidByText := true, laidKinds := [.data, .data, .data, .pinned], laidTests := true, laidLooks := .later }
def PacketOneUptoCardSaid : Prop := Claim7.holds Tryd.pinned (.plain (OpenSpec.upto packetOneSpec)) packetOneUptoCard
end Rows
end Go.Proofs.YtbimnfmjgmfijaaDoor

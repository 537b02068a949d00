/-
  DERIVED. GIVEN WITH THE SEED: THE CARDS: each row of YtidceockbjeaoaaDoorRows.lean that lists a variable, with what it lists TIED to the program's text (the seventh form; the later family's looks); each row that meets fmt, with fmt's text TOLD by the authors' own Lean function (tested against real Go, not proved from fmt's source: count such statements apart). THE CARD IS WHAT COUNTS. Prove the row's statement (the work); the ties are given (YtidceockbjeaoaaDoorTie.lean); close each card by the builder's one call (the guide's Derived/Test/ToyasCard.lean, 'card_holds'). Laid BY PROGRAM, IN A SANDBOX (cutbox-door.mjs). By AI agents, Wed Nov 11 2026. No macro, syntax, notation, axiom, sorry.
-/
import Derived.Test.YtidceockbjeaoaaDoorRows
import GoSem.ClaimSeven
namespace Go.Proofs.YtidceockbjeaoaaDoor
namespace Rows

/-- THE TIED CARD OF 'twinspanlaw02.HashSums'. -/
def hashSumsCard : Claim7 := { stood := { row := hashSumsRow, standIns := [], harness := (true, "501b5050b26b6d92cfbaeb4591e378e8cc20689ba323ebdc1fc9ba653ff3d2ad"), looks := false }, kinds := [], alts := [], laidByText := true, laidKinds := [.data, .data], laidTests := true, laidLooks := .later }
def HashSumsCardSaid : Prop := Claim7.holds Tryd.pinned (.plain (OpenSpec.ofChange hashSumsSpec)) hashSumsCard

/-- THE TIED CARD OF 'twinspanlaw02.HashOrder'. -/
def hashOrderCard : Claim7 := { stood := { row := hashOrderRow, standIns := [], harness := (true, "501b5050b26b6d92cfbaeb4591e378e8cc20689ba323ebdc1fc9ba653ff3d2ad"), looks := false }, kinds := [], alts := [], laidByText := true, laidKinds := [.data, .data], laidTests := true, laidLooks := .later }
def HashOrderCardSaid : Prop := Claim7.holds Tryd.pinned (.plain (OpenSpec.ofChange hashOrderSpec)) hashOrderCard

/-- THE TIED CARD OF 'twinspanlaw02.HashPieces'. -/
def hashPiecesCard : Claim7 := { stood := { row := hashPiecesRow, standIns := [], harness := (true, "501b5050b26b6d92cfbaeb4591e378e8cc20689ba323ebdc1fc9ba653ff3d2ad"), looks := false }, kinds := [], alts := [], laidByText := true, laidKinds := [.data, .data], laidTests := true, laidLooks := .later }
def HashPiecesCardSaid : Prop := Claim7.holds Tryd.pinned (.plain (OpenSpec.ofChange hashPiecesSpec)) hashPiecesCard

/-- THE TIED CARD OF 'twinspanlaw02.HashCuts'. -/
def hashCutsCard : Claim7 := { stood := { row := hashCutsRow, standIns := [], harness := (true, "501b5050b26b6d92cfbaeb4591e378e8cc20689ba323ebdc1fc9ba653ff3d2ad"), looks := false }, kinds := [], alts := [], laidByText := true, laidKinds := [.data, .data], laidTests := true, laidLooks := .later }
def HashCutsCardSaid : Prop := Claim7.holds Tryd.pinned (.plain (OpenSpec.ofChange hashCutsSpec)) hashCutsCard

/-- THE TIED CARD OF 'twinspanlaw02.HashNil'. -/
def hashNilCard : Claim7 := { stood := { row := hashNilRow, standIns := [], harness := (true, "501b5050b26b6d92cfbaeb4591e378e8cc20689ba323ebdc1fc9ba653ff3d2ad"), looks := false }, kinds := [], alts := [], laidByText := true, laidKinds := [.data, .data], laidTests := true, laidLooks := .later }
def HashNilCardSaid : Prop := Claim7.holds Tryd.pinned (.plain (OpenSpec.ofChange hashNilSpec)) hashNilCard

/-- THE TIED CARD OF 'twinspanlaw02.HashTexts'. -/
def hashTextsCard : Claim7 := { stood := { row := hashTextsRow, standIns := [], harness := (true, "501b5050b26b6d92cfbaeb4591e378e8cc20689ba323ebdc1fc9ba653ff3d2ad"), looks := false }, kinds := [], alts := [], laidByText := true, laidKinds := [.data, .data], laidTests := true, laidLooks := .later }
def HashTextsCardSaid : Prop := Claim7.holds Tryd.pinned (.plain (OpenSpec.ofChange hashTextsSpec)) hashTextsCard

/-- THE TIED CARD OF 'twinspanlaw03.SealSums'. -/
def sealSumsCard : Claim7 := { stood := { row := sealSumsRow, standIns := [], harness := (true, "501b5050b26b6d92cfbaeb4591e378e8cc20689ba323ebdc1fc9ba653ff3d2ad"), looks := false }, kinds := [], alts := [], laidByText := true, laidKinds := [.data, .data], laidTests := true, laidLooks := .later }
def SealSumsCardSaid : Prop := Claim7.holds Tryd.pinned (.plain (OpenSpec.ofChange sealSumsSpec)) sealSumsCard

/-- THE TIED CARD OF 'twinspanlaw03.SealPieces'. -/
def sealPiecesCard : Claim7 := { stood := { row := sealPiecesRow, standIns := [], harness := (true, "501b5050b26b6d92cfbaeb4591e378e8cc20689ba323ebdc1fc9ba653ff3d2ad"), looks := false }, kinds := [], alts := [], laidByText := true, laidKinds := [.data, .data], laidTests := true, laidLooks := .later }
def SealPiecesCardSaid : Prop := Claim7.holds Tryd.pinned (.plain (OpenSpec.ofChange sealPiecesSpec)) sealPiecesCard

/-- THE TIED CARD OF 'twinspanlaw03.SealKeys'. -/
def sealKeysCard : Claim7 := { stood := { row := sealKeysRow, standIns := [], harness := (true, "501b5050b26b6d92cfbaeb4591e378e8cc20689ba323ebdc1fc9ba653ff3d2ad"), looks := false }, kinds := [], alts := [], laidByText := true, laidKinds := [.data, .data], laidTests := true, laidLooks := .later }
def SealKeysCardSaid : Prop := Claim7.holds Tryd.pinned (.plain (OpenSpec.ofChange sealKeysSpec)) sealKeysCard

/-- THE TIED CARD OF 'twinspanlaw03.SealTurned'. -/
def sealTurnedCard : Claim7 := { stood := { row := sealTurnedRow, standIns := [], harness := (true, "501b5050b26b6d92cfbaeb4591e378e8cc20689ba323ebdc1fc9ba653ff3d2ad"), looks := false }, kinds := [], alts := [], laidByText := true, laidKinds := [.data, .data], laidTests := true, laidLooks := .later }
def SealTurnedCardSaid : Prop := Claim7.holds Tryd.pinned (.plain (OpenSpec.ofChange sealTurnedSpec)) sealTurnedCard

/-- THE TIED CARD OF 'twinspanlaw03.SealNil'. -/
def sealNilCard : Claim7 := { stood := { row := sealNilRow, standIns := [], harness := (true, "501b5050b26b6d92cfbaeb4591e378e8cc20689ba323ebdc1fc9ba653ff3d2ad"), looks := false }, kinds := [], alts := [], laidByText := true, laidKinds := [.data, .data], laidTests := true, laidLooks := .later }
def SealNilCardSaid : Prop := Claim7.holds Tryd.pinned (.plain (OpenSpec.ofChange sealNilSpec)) sealNilCard

/-- THE TIED CARD OF 'twinspanlaw03.SealApart'. -/
def sealApartCard : Claim7 := { stood := { row := sealApartRow, standIns := [], harness := (true, "501b5050b26b6d92cfbaeb4591e378e8cc20689ba323ebdc1fc9ba653ff3d2ad"), looks := false }, kinds := [], alts := [], laidByText := true, laidKinds := [.data, .data], laidTests := true, laidLooks := .later }
def SealApartCardSaid : Prop := Claim7.holds Tryd.pinned (.plain (OpenSpec.ofChange sealApartSpec)) sealApartCard

/-- THE SECOND FORM's CARD OF 'twinspanlaw02.HashSums'. -/
def hashSumsUptoCard : Claim7 := { stood := { row := hashSumsUptoRow, standIns := [], harness := (true, "501b5050b26b6d92cfbaeb4591e378e8cc20689ba323ebdc1fc9ba653ff3d2ad"), looks := false }, kinds := [], alts := [], laidByText := true, laidKinds := [.data, .data], laidTests := true, laidLooks := .later }
def HashSumsUptoCardSaid : Prop := Claim7.holds Tryd.pinned (.plain (OpenSpec.upto hashSumsSpec)) hashSumsUptoCard

/-- THE SECOND FORM's CARD OF 'twinspanlaw02.HashOrder'. -/
def hashOrderUptoCard : Claim7 := { stood := { row := hashOrderUptoRow, standIns := [], harness := (true, "501b5050b26b6d92cfbaeb4591e378e8cc20689ba323ebdc1fc9ba653ff3d2ad"), looks := false }, kinds := [], alts := [], laidByText := true, laidKinds := [.data, .data], laidTests := true, laidLooks := .later }
def HashOrderUptoCardSaid : Prop := Claim7.holds Tryd.pinned (.plain (OpenSpec.upto hashOrderSpec)) hashOrderUptoCard

/-- THE SECOND FORM's CARD OF 'twinspanlaw02.HashPieces'. -/
def hashPiecesUptoCard : Claim7 := { stood := { row := hashPiecesUptoRow, standIns := [], harness := (true, "501b5050b26b6d92cfbaeb4591e378e8cc20689ba323ebdc1fc9ba653ff3d2ad"), looks := false }, kinds := [], alts := [], laidByText := true, laidKinds := [.data, .data], laidTests := true, laidLooks := .later }
def HashPiecesUptoCardSaid : Prop := Claim7.holds Tryd.pinned (.plain (OpenSpec.upto hashPiecesSpec)) hashPiecesUptoCard

/-- THE SECOND FORM's CARD OF 'twinspanlaw02.HashCuts'. -/
def hashCutsUptoCard : Claim7 := { stood := { row := hashCutsUptoRow, standIns := [], harness := (true, "501b5050b26b6d92cfbaeb4591e378e8cc20689ba323ebdc1fc9ba653ff3d2ad"), looks := false }, kinds := [], alts := [], laidByText := true, laidKinds := [.data, .data], laidTests := true, laidLooks := .later }
def HashCutsUptoCardSaid : Prop := Claim7.holds Tryd.pinned (.plain (OpenSpec.upto hashCutsSpec)) hashCutsUptoCard

/-- THE SECOND FORM's CARD OF 'twinspanlaw02.HashNil'. -/
def hashNilUptoCard : Claim7 := { stood := { row := hashNilUptoRow, standIns := [], harness := (true, "501b5050b26b6d92cfbaeb4591e378e8cc20689ba323ebdc1fc9ba653ff3d2ad"), looks := false }, kinds := [], alts := [], laidByText := true, laidKinds := [.data, .data], laidTests := true, laidLooks := .later }
def HashNilUptoCardSaid : Prop := Claim7.holds Tryd.pinned (.plain (OpenSpec.upto hashNilSpec)) hashNilUptoCard

/-- THE SECOND FORM's CARD OF 'twinspanlaw02.HashTexts'. -/
def hashTextsUptoCard : Claim7 := { stood := { row := hashTextsUptoRow, standIns := [], harness := (true, "501b5050b26b6d92cfbaeb4591e378e8cc20689ba323ebdc1fc9ba653ff3d2ad"), looks := false }, kinds := [], alts := [], laidByText := true, laidKinds := [.data, .data], laidTests := true, laidLooks := .later }
def HashTextsUptoCardSaid : Prop := Claim7.holds Tryd.pinned (.plain (OpenSpec.upto hashTextsSpec)) hashTextsUptoCard

/-- THE SECOND FORM's CARD OF 'twinspanlaw03.SealSums'. -/
def sealSumsUptoCard : Claim7 := { stood := { row := sealSumsUptoRow, standIns := [], harness := (true, "501b5050b26b6d92cfbaeb4591e378e8cc20689ba323ebdc1fc9ba653ff3d2ad"), looks := false }, kinds := [], alts := [], laidByText := true, laidKinds := [.data, .data], laidTests := true, laidLooks := .later }
def SealSumsUptoCardSaid : Prop := Claim7.holds Tryd.pinned (.plain (OpenSpec.upto sealSumsSpec)) sealSumsUptoCard

/-- THE SECOND FORM's CARD OF 'twinspanlaw03.SealPieces'. -/
def sealPiecesUptoCard : Claim7 := { stood := { row := sealPiecesUptoRow, standIns := [], harness := (true, "501b5050b26b6d92cfbaeb4591e378e8cc20689ba323ebdc1fc9ba653ff3d2ad"), looks := false }, kinds := [], alts := [], laidByText := true, laidKinds := [.data, .data], laidTests := true, laidLooks := .later }
def SealPiecesUptoCardSaid : Prop := Claim7.holds Tryd.pinned (.plain (OpenSpec.upto sealPiecesSpec)) sealPiecesUptoCard

/-- THE SECOND FORM's CARD OF 'twinspanlaw03.SealKeys'. -/
def sealKeysUptoCard : Claim7 := { stood := { row := sealKeysUptoRow, standIns := [], harness := (true, "501b5050b26b6d92cfbaeb4591e378e8cc20689ba323ebdc1fc9ba653ff3d2ad"), looks := false }, kinds := [], alts := [], laidByText := true, laidKinds := [.data, .data], laidTests := true, laidLooks := .later }
def SealKeysUptoCardSaid : Prop := Claim7.holds Tryd.pinned (.plain (OpenSpec.upto sealKeysSpec)) sealKeysUptoCard

/-- THE SECOND FORM's CARD OF 'twinspanlaw03.SealTurned'. -/
def sealTurnedUptoCard : Claim7 := { stood := { row := sealTurnedUptoRow, standIns := [], harness := (true, "501b5050b26b6d92cfbaeb4591e378e8cc20689ba323ebdc1fc9ba653ff3d2ad"), looks := false }, kinds := [], alts := [], laidByText := true, laidKinds := [.data, .data], laidTests := true, laidLooks := .later }
def SealTurnedUptoCardSaid : Prop := Claim7.holds Tryd.pinned (.plain (OpenSpec.upto sealTurnedSpec)) sealTurnedUptoCard

/-- THE SECOND FORM's CARD OF 'twinspanlaw03.SealNil'. -/
def sealNilUptoCard : Claim7 := { stood := { row := sealNilUptoRow, standIns := [], harness := (true, "501b5050b26b6d92cfbaeb4591e378e8cc20689ba323ebdc1fc9ba653ff3d2ad"), looks := false }, kinds := [], alts := [], laidByText := true, laidKinds := [.data, .data], laidTests := true, laidLooks := .later }
def SealNilUptoCardSaid : Prop := Claim7.holds Tryd.pinned (.plain (OpenSpec.upto sealNilSpec)) sealNilUptoCard

/-- THE SECOND FORM's CARD OF 'twinspanlaw03.SealApart'. -/
def sealApartUptoCard : Claim7 := { stood := { row := sealApartUptoRow, standIns := [], harness := (true, "501b5050b26b6d92cfbaeb4591e378e8cc20689ba323ebdc1fc9ba653ff3d2ad"), looks := false }, kinds := [], alts := [], laidByText := true, laidKinds := [.data, .data], laidTests := true, laidLooks := .later }
def SealApartUptoCardSaid : Prop := Claim7.holds Tryd.pinned (.plain (OpenSpec.upto sealApartSpec)) sealApartUptoCard
end Rows
end Go.Proofs.YtidceockbjeaoaaDoor

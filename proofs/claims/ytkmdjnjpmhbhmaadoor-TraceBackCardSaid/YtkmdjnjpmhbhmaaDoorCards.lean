/-
  DERIVED. GIVEN WITH THE SEED: THE CARDS: each row of YtkmdjnjpmhbhmaaDoorRows.lean that lists a variable, with what it lists TIED to the program's text (the seventh form; the later family's looks); each row that meets fmt, with fmt's text TOLD by the authors' own Lean function (tested against real Go, not proved from fmt's source: count such statements apart). THE CARD IS WHAT COUNTS. Prove the row's statement (the work); the ties are given (YtkmdjnjpmhbhmaaDoorTie.lean); close each card by the builder's one call (the guide's Derived/Test/ToyasCard.lean, 'card_holds'). Laid BY PROGRAM, IN A SANDBOX (cutbox-door.mjs). By AI agents, Wed Nov 11 2026. No macro, syntax, notation, axiom, sorry.
-/
import Derived.Test.YtkmdjnjpmhbhmaaDoorRows
import GoSem.ClaimSeven
namespace Go.Proofs.YtkmdjnjpmhbhmaaDoor
namespace Rows

/-- THE TIED CARD OF 'twinspanlaw13.PacketAnswers'. -/
def packetAnswersCard : Claim7 := { stood := { row := packetAnswersRow, standIns := [], harness := (true, "86b015e4d663ec70a5513141228b4ba5f9bee36b5f9f61ef1c2752c599e6c347"), looks := false }, kinds := [], alts := [], laidByText := true, laidKinds := [.data, .data], laidTests := true, laidLooks := .later }
def PacketAnswersCardSaid : Prop := Claim7.holds Tryd.pinned (.plain (OpenSpec.ofChange packetAnswersSpec)) packetAnswersCard

/-- THE TIED CARD OF 'twinspanlaw13.PacketResults'. -/
def packetResultsCard : Claim7 := { stood := { row := packetResultsRow, standIns := [], harness := (true, "86b015e4d663ec70a5513141228b4ba5f9bee36b5f9f61ef1c2752c599e6c347"), looks := false }, kinds := [], alts := [], laidByText := true, laidKinds := [.data, .data], laidTests := true, laidLooks := .later }
def PacketResultsCardSaid : Prop := Claim7.holds Tryd.pinned (.plain (OpenSpec.ofChange packetResultsSpec)) packetResultsCard

/-- THE TIED CARD OF 'twinspanlaw12.TraceMoves'. -/
def traceMovesCard : Claim7 := { stood := { row := traceMovesRow, standIns := [], harness := (true, "86b015e4d663ec70a5513141228b4ba5f9bee36b5f9f61ef1c2752c599e6c347"), looks := false }, kinds := [], alts := [], laidByText := true, laidKinds := [.data, .pinned], laidTests := true, laidLooks := .later }
def TraceMovesCardSaid : Prop := Claim7.holds Tryd.pinned (.plain (OpenSpec.ofChange traceMovesSpec)) traceMovesCard

/-- THE TIED CARD OF 'twinspanlaw12.TraceOther'. -/
def traceOtherCard : Claim7 := { stood := { row := traceOtherRow, standIns := [], harness := (true, "86b015e4d663ec70a5513141228b4ba5f9bee36b5f9f61ef1c2752c599e6c347"), looks := false }, kinds := [], alts := [], laidByText := true, laidKinds := [.data, .pinned], laidTests := true, laidLooks := .later }
def TraceOtherCardSaid : Prop := Claim7.holds Tryd.pinned (.plain (OpenSpec.ofChange traceOtherSpec)) traceOtherCard

/-- THE TIED CARD OF 'twinspanlaw12.TraceOver'. -/
def traceOverCard : Claim7 := { stood := { row := traceOverRow, standIns := [], harness := (true, "86b015e4d663ec70a5513141228b4ba5f9bee36b5f9f61ef1c2752c599e6c347"), looks := false }, kinds := [], alts := [], laidByText := true, laidKinds := [.data, .pinned], laidTests := true, laidLooks := .later }
def TraceOverCardSaid : Prop := Claim7.holds Tryd.pinned (.plain (OpenSpec.ofChange traceOverSpec)) traceOverCard

/-- THE TIED CARD OF 'twinspanlaw13.PacketReads'. -/
def packetReadsCard : Claim7 := { stood := { row := packetReadsRow, standIns := [], harness := (true, "86b015e4d663ec70a5513141228b4ba5f9bee36b5f9f61ef1c2752c599e6c347"), looks := false }, kinds := [], alts := [], laidByText := true, laidKinds := [.data, .pinned], laidTests := true, laidLooks := .later }
def PacketReadsCardSaid : Prop := Claim7.holds Tryd.pinned (.plain (OpenSpec.ofChange packetReadsSpec)) packetReadsCard

/-- THE TIED CARD OF 'twinspanlaw12.TraceEnds'. -/
def traceEndsCard : Claim7 := { stood := { row := traceEndsRow, standIns := [], harness := (true, "86b015e4d663ec70a5513141228b4ba5f9bee36b5f9f61ef1c2752c599e6c347"), looks := false }, kinds := [], alts := [], laidByText := true, laidKinds := [.data, .pinned], laidTests := true, laidLooks := .later }
def TraceEndsCardSaid : Prop := Claim7.holds Tryd.pinned (.plain (OpenSpec.ofChange traceEndsSpec)) traceEndsCard

/-- THE TIED CARD OF 'twinspanlaw13.PacketBack'. -/
def packetBackCard : Claim7 := { stood := { row := packetBackRow, standIns := [], harness := (true, "86b015e4d663ec70a5513141228b4ba5f9bee36b5f9f61ef1c2752c599e6c347"), looks := false }, kinds := [], alts := [], laidByText := true, laidKinds := [.data, .pinned], laidTests := true, laidLooks := .later }
def PacketBackCardSaid : Prop := Claim7.holds Tryd.pinned (.plain (OpenSpec.ofChange packetBackSpec)) packetBackCard

/-- THE TIED CARD OF 'twinspanlaw12.TraceBack'. -/
def traceBackCard : Claim7 := { stood := { row := traceBackRow, standIns := [], harness := (true, "86b015e4d663ec70a5513141228b4ba5f9bee36b5f9f61ef1c2752c599e6c347"), looks := false }, kinds := [], alts := [], laidByText := true, laidKinds := [.data, .pinned], laidTests := true, laidLooks := .later }
def TraceBackCardSaid : Prop := Claim7.holds Tryd.pinned (.plain (OpenSpec.ofChange traceBackSpec)) traceBackCard

/-- THE TIED CARD OF 'twinspanlaw12.TraceTells'. -/
def traceTellsCard : Claim7 := { stood := { row := traceTellsRow, standIns := [], harness := (true, "86b015e4d663ec70a5513141228b4ba5f9bee36b5f9f61ef1c2752c599e6c347"), looks := false }, kinds := [], alts := [], laidByText := true, laidKinds := [.data, .pinned], laidTests := true, laidLooks := .later }
def TraceTellsCardSaid : Prop := Claim7.holds Tryd.pinned (.plain (OpenSpec.ofChange traceTellsSpec)) traceTellsCard

/-- THE TIED CARD OF 'twinspanlaw12.TraceJoins'. -/
def traceJoinsCard : Claim7 := { stood := { row := traceJoinsRow, standIns := [], harness := (true, "86b015e4d663ec70a5513141228b4ba5f9bee36b5f9f61ef1c2752c599e6c347"), looks := false }, kinds := [], alts := [], laidByText := true, laidKinds := [.data, .pinned], laidTests := true, laidLooks := .later }
def TraceJoinsCardSaid : Prop := Claim7.holds Tryd.pinned (.plain (OpenSpec.ofChange traceJoinsSpec)) traceJoinsCard

/-- THE TIED CARD OF 'twinspanlaw13.PacketTells'. -/
def packetTellsCard : Claim7 := { stood := { row := packetTellsRow, standIns := [], harness := (true, "86b015e4d663ec70a5513141228b4ba5f9bee36b5f9f61ef1c2752c599e6c347"), looks := false }, kinds := [], alts := [], laidByText := true, laidKinds := [.data, .data, .data, .pinned], laidTests := true, laidLooks := .later }
def PacketTellsCardSaid : Prop := Claim7.holds Tryd.pinned (.plain (OpenSpec.ofChange packetTellsSpec)) packetTellsCard

/-- THE TIED CARD OF 'twinspanlaw13.PacketOne'. -/
def packetOneCard : Claim7 := { stood := { row := packetOneRow, standIns := [], harness := (true, "86b015e4d663ec70a5513141228b4ba5f9bee36b5f9f61ef1c2752c599e6c347"), looks := false }, kinds := [], alts := [], laidByText := true, laidKinds := [.data, .data, .data, .pinned], laidTests := true, laidLooks := .later }
def PacketOneCardSaid : Prop := Claim7.holds Tryd.pinned (.plain (OpenSpec.ofChange packetOneSpec)) packetOneCard

/-- THE SECOND FORM's CARD OF 'twinspanlaw13.PacketAnswers'. -/
def packetAnswersUptoCard : Claim7 := { stood := { row := packetAnswersUptoRow, standIns := [], harness := (true, "86b015e4d663ec70a5513141228b4ba5f9bee36b5f9f61ef1c2752c599e6c347"), looks := false }, kinds := [], alts := [], laidByText := true, laidKinds := [.data, .data], laidTests := true, laidLooks := .later }
def PacketAnswersUptoCardSaid : Prop := Claim7.holds Tryd.pinned (.plain (OpenSpec.upto packetAnswersSpec)) packetAnswersUptoCard

/-- THE SECOND FORM's CARD OF 'twinspanlaw13.PacketResults'. -/
def packetResultsUptoCard : Claim7 := { stood := { row := packetResultsUptoRow, standIns := [], harness := (true, "86b015e4d663ec70a5513141228b4ba5f9bee36b5f9f61ef1c2752c599e6c347"), looks := false }, kinds := [], alts := [], laidByText := true, laidKinds := [.data, .data], laidTests := true, laidLooks := .later }
def PacketResultsUptoCardSaid : Prop := Claim7.holds Tryd.pinned (.plain (OpenSpec.upto packetResultsSpec)) packetResultsUptoCard

/-- THE SECOND FORM's CARD OF 'twinspanlaw12.TraceMoves'. -/
def traceMovesUptoCard : Claim7 := { stood := { row := traceMovesUptoRow, standIns := [], harness := (true, "86b015e4d663ec70a5513141228b4ba5f9bee36b5f9f61ef1c2752c599e6c347"), looks := false }, kinds := [], alts := [], laidByText := true, laidKinds := [.data, .pinned], laidTests := true, laidLooks := .later }
def TraceMovesUptoCardSaid : Prop := Claim7.holds Tryd.pinned (.plain (OpenSpec.upto traceMovesSpec)) traceMovesUptoCard

/-- THE SECOND FORM's CARD OF 'twinspanlaw12.TraceOther'. -/
def traceOtherUptoCard : Claim7 := { stood := { row := traceOtherUptoRow, standIns := [], harness := (true, "86b015e4d663ec70a5513141228b4ba5f9bee36b5f9f61ef1c2752c599e6c347"), looks := false }, kinds := [], alts := [], laidByText := true, laidKinds := [.data, .pinned], laidTests := true, laidLooks := .later }
def TraceOtherUptoCardSaid : Prop := Claim7.holds Tryd.pinned (.plain (OpenSpec.upto traceOtherSpec)) traceOtherUptoCard

/-- THE SECOND FORM's CARD OF 'twinspanlaw12.TraceOver'. -/
def traceOverUptoCard : Claim7 := { stood := { row := traceOverUptoRow, standIns := [], harness := (true, "86b015e4d663ec70a5513141228b4ba5f9bee36b5f9f61ef1c2752c599e6c347"), looks := false }, kinds := [], alts := [], laidByText := true, laidKinds := [.data, .pinned], laidTests := true, laidLooks := .later }
def TraceOverUptoCardSaid : Prop := Claim7.holds Tryd.pinned (.plain (OpenSpec.upto traceOverSpec)) traceOverUptoCard

/-- THE SECOND FORM's CARD OF 'twinspanlaw13.PacketReads'. -/
def packetReadsUptoCard : Claim7 := { stood := { row := packetReadsUptoRow, standIns := [], harness := (true, "86b015e4d663ec70a5513141228b4ba5f9bee36b5f9f61ef1c2752c599e6c347"), looks := false }, kinds := [], alts := [], laidByText := true, laidKinds := [.data, .pinned], laidTests := true, laidLooks := .later }
def PacketReadsUptoCardSaid : Prop := Claim7.holds Tryd.pinned (.plain (OpenSpec.upto packetReadsSpec)) packetReadsUptoCard

/-- THE SECOND FORM's CARD OF 'twinspanlaw12.TraceEnds'. -/
def traceEndsUptoCard : Claim7 := { stood := { row := traceEndsUptoRow, standIns := [], harness := (true, "86b015e4d663ec70a5513141228b4ba5f9bee36b5f9f61ef1c2752c599e6c347"), looks := false }, kinds := [], alts := [], laidByText := true, laidKinds := [.data, .pinned], laidTests := true, laidLooks := .later }
def TraceEndsUptoCardSaid : Prop := Claim7.holds Tryd.pinned (.plain (OpenSpec.upto traceEndsSpec)) traceEndsUptoCard

/-- THE SECOND FORM's CARD OF 'twinspanlaw13.PacketBack'. -/
def packetBackUptoCard : Claim7 := { stood := { row := packetBackUptoRow, standIns := [], harness := (true, "86b015e4d663ec70a5513141228b4ba5f9bee36b5f9f61ef1c2752c599e6c347"), looks := false }, kinds := [], alts := [], laidByText := true, laidKinds := [.data, .pinned], laidTests := true, laidLooks := .later }
def PacketBackUptoCardSaid : Prop := Claim7.holds Tryd.pinned (.plain (OpenSpec.upto packetBackSpec)) packetBackUptoCard

/-- THE SECOND FORM's CARD OF 'twinspanlaw12.TraceBack'. -/
def traceBackUptoCard : Claim7 := { stood := { row := traceBackUptoRow, standIns := [], harness := (true, "86b015e4d663ec70a5513141228b4ba5f9bee36b5f9f61ef1c2752c599e6c347"), looks := false }, kinds := [], alts := [], laidByText := true, laidKinds := [.data, .pinned], laidTests := true, laidLooks := .later }
def TraceBackUptoCardSaid : Prop := Claim7.holds Tryd.pinned (.plain (OpenSpec.upto traceBackSpec)) traceBackUptoCard

/-- THE SECOND FORM's CARD OF 'twinspanlaw12.TraceTells'. -/
def traceTellsUptoCard : Claim7 := { stood := { row := traceTellsUptoRow, standIns := [], harness := (true, "86b015e4d663ec70a5513141228b4ba5f9bee36b5f9f61ef1c2752c599e6c347"), looks := false }, kinds := [], alts := [], laidByText := true, laidKinds := [.data, .pinned], laidTests := true, laidLooks := .later }
def TraceTellsUptoCardSaid : Prop := Claim7.holds Tryd.pinned (.plain (OpenSpec.upto traceTellsSpec)) traceTellsUptoCard

/-- THE SECOND FORM's CARD OF 'twinspanlaw12.TraceJoins'. -/
def traceJoinsUptoCard : Claim7 := { stood := { row := traceJoinsUptoRow, standIns := [], harness := (true, "86b015e4d663ec70a5513141228b4ba5f9bee36b5f9f61ef1c2752c599e6c347"), looks := false }, kinds := [], alts := [], laidByText := true, laidKinds := [.data, .pinned], laidTests := true, laidLooks := .later }
def TraceJoinsUptoCardSaid : Prop := Claim7.holds Tryd.pinned (.plain (OpenSpec.upto traceJoinsSpec)) traceJoinsUptoCard

/-- THE SECOND FORM's CARD OF 'twinspanlaw13.PacketTells'. -/
def packetTellsUptoCard : Claim7 := { stood := { row := packetTellsUptoRow, standIns := [], harness := (true, "86b015e4d663ec70a5513141228b4ba5f9bee36b5f9f61ef1c2752c599e6c347"), looks := false }, kinds := [], alts := [], laidByText := true, laidKinds := [.data, .data, .data, .pinned], laidTests := true, laidLooks := .later }
def PacketTellsUptoCardSaid : Prop := Claim7.holds Tryd.pinned (.plain (OpenSpec.upto packetTellsSpec)) packetTellsUptoCard

/-- THE SECOND FORM's CARD OF 'twinspanlaw13.PacketOne'. -/
def packetOneUptoCard : Claim7 := { stood := { row := packetOneUptoRow, standIns := [], harness := (true, "86b015e4d663ec70a5513141228b4ba5f9bee36b5f9f61ef1c2752c599e6c347"), looks := false }, kinds := [], alts := [], laidByText := true, laidKinds := [.data, .data, .data, .pinned], laidTests := true, laidLooks := .later }
def PacketOneUptoCardSaid : Prop := Claim7.holds Tryd.pinned (.plain (OpenSpec.upto packetOneSpec)) packetOneUptoCard
end Rows
end Go.Proofs.YtkmdjnjpmhbhmaaDoor

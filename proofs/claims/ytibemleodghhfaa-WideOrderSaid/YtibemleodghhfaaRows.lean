/-
  No cell of these rows narrows 'for every input' (looked for: loops, veiled, ifaces, maps, wideKeys, modest, calm, conditions, laid).
  DERIVED. THE GIVEN ROWS OF THIS SEAT. 9 by the template 'for every input the law returns true; each argument reads behind the call as it read before'; 0 by the template 'total and deterministic' (their statements: YtibemleodghhfaaTotals.lean).
  GIVEN WITH THE SEED: the statements are not yours to turn. If you find one false, say at which input.
  Laid BY PROGRAM, IN A SANDBOX (cutbox-rows.mjs): the forced cells as the released guide's own fill.sh prints them over the translation 2debeaeab92421a7… (all of the seat's roots in one cut). By AI agents, Wed Nov 11 2026. No macro, syntax, notation, axiom, sorry.
-/
import Derived.Test.YtibemleodghhfaaChecked
import GoSem.Claim
import GoSem.ClaimJoined
import GoSem.ClaimMapViews
import Derived.JoinedTies
import Derived.KernelRfl
namespace Go.Proofs.Ytibemleodghhfaa
/- THE CELL 'sum', in the pinned program and in every row, IS THE sha256 OF THE DUMP (.gsa) THAT YtibemleodghhfaaProg.lean LOADS. Nothing in Lean hashes anything: it is a label: what it is worth is what the hold of that sum in a sandbox is worth. -/
noncomputable def Try.pinned : Pinned := { name := "ytibemleodghhfaa", sum := "2debeaeab92421a7ea664b16f8ab64788f103df8cb1bf0867785f6470dddf497", checked := Try.checked }
namespace Rows
def none {H : Type} : Left H := { results := [], args := [] }

/-- 'twinspanlaw13.PacketLater': WHATEVER THE INPUT: true; the input reads as it did. -/
def packetLaterSpec : ChangeSpec := { name := "packetLater", fn := fun _ => fun
  | [d] => { results := [.lit (.bool true)], args := [d] }
  | _ => none }
def packetLaterRow : OpenClaim := { program := "ytibemleodghhfaa", sum := "2debeaeab92421a7ea664b16f8ab64788f103df8cb1bf0867785f6470dddf497", func := "twinspan/twinspanlaw13.PacketLater", spec := "packetLater", apart := false }
def PacketLaterSaid : Prop := packetLaterRow.holds Try.pinned (OpenSpec.ofChange packetLaterSpec)

/-- ITS FALSE NEIGHBOUR: 'it returns false'. Refute it at one input. -/
def packetLaterWrong : ChangeSpec := { name := "packetLater", fn := fun _ => fun
  | [d] => { results := [.lit (.bool false)], args := [d] }
  | _ => none }
def PacketLaterWrongFalsely : Prop := packetLaterRow.holds Try.pinned (OpenSpec.ofChange packetLaterWrong)

/-- 'twinspanlaw04.WideParts': WHATEVER THE INPUT: true; the input reads as it did. -/
def widePartsSpec : ChangeSpec := { name := "wideParts", fn := fun _ => fun
  | [d1, d2] => { results := [.lit (.bool true)], args := [d1, d2] }
  | _ => none }
def widePartsRow : OpenClaim := { program := "ytibemleodghhfaa", sum := "2debeaeab92421a7ea664b16f8ab64788f103df8cb1bf0867785f6470dddf497", func := "twinspan/twinspanlaw04.WideParts", spec := "wideParts", inPlace := ["math/bits.Add64", "math/bits.Sub64"], named := ["math/bits.divideError", "math/bits.overflowError"], apart := false }
def WidePartsSaid : Prop := widePartsRow.holds Try.pinned (OpenSpec.ofChange widePartsSpec)

/-- ITS FALSE NEIGHBOUR: 'it returns false'. Refute it at one input. -/
def widePartsWrong : ChangeSpec := { name := "wideParts", fn := fun _ => fun
  | [d1, d2] => { results := [.lit (.bool false)], args := [d1, d2] }
  | _ => none }
def WidePartsWrongFalsely : Prop := widePartsRow.holds Try.pinned (OpenSpec.ofChange widePartsWrong)

/-- 'twinspanlaw04.WideSums': WHATEVER THE INPUT: true; the input reads as it did. -/
def wideSumsSpec : ChangeSpec := { name := "wideSums", fn := fun _ => fun
  | [d] => { results := [.lit (.bool true)], args := [d] }
  | _ => none }
def wideSumsRow : OpenClaim := { program := "ytibemleodghhfaa", sum := "2debeaeab92421a7ea664b16f8ab64788f103df8cb1bf0867785f6470dddf497", func := "twinspan/twinspanlaw04.WideSums", spec := "wideSums", inPlace := ["math/bits.Add64", "math/bits.Sub64"], named := ["math/bits.divideError", "math/bits.overflowError"], apart := false }
def WideSumsSaid : Prop := wideSumsRow.holds Try.pinned (OpenSpec.ofChange wideSumsSpec)

/-- ITS FALSE NEIGHBOUR: 'it returns false'. Refute it at one input. -/
def wideSumsWrong : ChangeSpec := { name := "wideSums", fn := fun _ => fun
  | [d] => { results := [.lit (.bool false)], args := [d] }
  | _ => none }
def WideSumsWrongFalsely : Prop := wideSumsRow.holds Try.pinned (OpenSpec.ofChange wideSumsWrong)

/-- 'twinspanlaw04.WideTimes': WHATEVER THE INPUT: true; the input reads as it did. -/
def wideTimesSpec : ChangeSpec := { name := "wideTimes", fn := fun _ => fun
  | [d1, d2] => { results := [.lit (.bool true)], args := [d1, d2] }
  | _ => none }
def wideTimesRow : OpenClaim := { program := "ytibemleodghhfaa", sum := "2debeaeab92421a7ea664b16f8ab64788f103df8cb1bf0867785f6470dddf497", func := "twinspan/twinspanlaw04.WideTimes", spec := "wideTimes", inPlace := ["math/bits.Add64", "math/bits.Sub64"], named := ["math/bits.divideError", "math/bits.overflowError"], apart := false }
def WideTimesSaid : Prop := wideTimesRow.holds Try.pinned (OpenSpec.ofChange wideTimesSpec)

/-- ITS FALSE NEIGHBOUR: 'it returns false'. Refute it at one input. -/
def wideTimesWrong : ChangeSpec := { name := "wideTimes", fn := fun _ => fun
  | [d1, d2] => { results := [.lit (.bool false)], args := [d1, d2] }
  | _ => none }
def WideTimesWrongFalsely : Prop := wideTimesRow.holds Try.pinned (OpenSpec.ofChange wideTimesWrong)

/-- 'twinspanlaw04.WideEnds': WHATEVER THE INPUT: true; the input reads as it did. -/
def wideEndsSpec : ChangeSpec := { name := "wideEnds", fn := fun _ => fun
  | [d] => { results := [.lit (.bool true)], args := [d] }
  | _ => none }
def wideEndsRow : OpenClaim := { program := "ytibemleodghhfaa", sum := "2debeaeab92421a7ea664b16f8ab64788f103df8cb1bf0867785f6470dddf497", func := "twinspan/twinspanlaw04.WideEnds", spec := "wideEnds", inPlace := ["math/bits.Add64", "math/bits.Sub64"], named := ["math/bits.divideError", "math/bits.overflowError"], apart := false }
def WideEndsSaid : Prop := wideEndsRow.holds Try.pinned (OpenSpec.ofChange wideEndsSpec)

/-- ITS FALSE NEIGHBOUR: 'it returns false'. Refute it at one input. -/
def wideEndsWrong : ChangeSpec := { name := "wideEnds", fn := fun _ => fun
  | [d] => { results := [.lit (.bool false)], args := [d] }
  | _ => none }
def WideEndsWrongFalsely : Prop := wideEndsRow.holds Try.pinned (OpenSpec.ofChange wideEndsWrong)

/-- 'twinspanlaw04.WideTurns': WHATEVER THE INPUT: true; the input reads as it did. -/
def wideTurnsSpec : ChangeSpec := { name := "wideTurns", fn := fun _ => fun
  | [d1, d2, d3] => { results := [.lit (.bool true)], args := [d1, d2, d3] }
  | _ => none }
def wideTurnsRow : OpenClaim := { program := "ytibemleodghhfaa", sum := "2debeaeab92421a7ea664b16f8ab64788f103df8cb1bf0867785f6470dddf497", func := "twinspan/twinspanlaw04.WideTurns", spec := "wideTurns", inPlace := ["math/bits.Add64", "math/bits.Sub64"], named := ["math/bits.divideError", "math/bits.overflowError"], apart := false }
def WideTurnsSaid : Prop := wideTurnsRow.holds Try.pinned (OpenSpec.ofChange wideTurnsSpec)

/-- ITS FALSE NEIGHBOUR: 'it returns false'. Refute it at one input. -/
def wideTurnsWrong : ChangeSpec := { name := "wideTurns", fn := fun _ => fun
  | [d1, d2, d3] => { results := [.lit (.bool false)], args := [d1, d2, d3] }
  | _ => none }
def WideTurnsWrongFalsely : Prop := wideTurnsRow.holds Try.pinned (OpenSpec.ofChange wideTurnsWrong)

/-- 'twinspanlaw04.WideCounts': WHATEVER THE INPUT: true; the input reads as it did. -/
def wideCountsSpec : ChangeSpec := { name := "wideCounts", fn := fun _ => fun
  | [d1, d2, d3] => { results := [.lit (.bool true)], args := [d1, d2, d3] }
  | _ => none }
def wideCountsRow : OpenClaim := { program := "ytibemleodghhfaa", sum := "2debeaeab92421a7ea664b16f8ab64788f103df8cb1bf0867785f6470dddf497", func := "twinspan/twinspanlaw04.WideCounts", spec := "wideCounts", inPlace := ["math/bits.Add64", "math/bits.Sub64"], named := ["math/bits.divideError", "math/bits.overflowError"], apart := false }
def WideCountsSaid : Prop := wideCountsRow.holds Try.pinned (OpenSpec.ofChange wideCountsSpec)

/-- ITS FALSE NEIGHBOUR: 'it returns false'. Refute it at one input. -/
def wideCountsWrong : ChangeSpec := { name := "wideCounts", fn := fun _ => fun
  | [d1, d2, d3] => { results := [.lit (.bool false)], args := [d1, d2, d3] }
  | _ => none }
def WideCountsWrongFalsely : Prop := wideCountsRow.holds Try.pinned (OpenSpec.ofChange wideCountsWrong)

/-- 'twinspanlaw04.WideWrites': WHATEVER THE INPUT: true; the input reads as it did. -/
def wideWritesSpec : ChangeSpec := { name := "wideWrites", fn := fun _ => fun
  | [d1, d2] => { results := [.lit (.bool true)], args := [d1, d2] }
  | _ => none }
def wideWritesRow : OpenClaim := { program := "ytibemleodghhfaa", sum := "2debeaeab92421a7ea664b16f8ab64788f103df8cb1bf0867785f6470dddf497", func := "twinspan/twinspanlaw04.WideWrites", spec := "wideWrites", inPlace := ["math/bits.Add64", "math/bits.Sub64"], named := ["math/bits.divideError", "math/bits.overflowError"], apart := false }
def WideWritesSaid : Prop := wideWritesRow.holds Try.pinned (OpenSpec.ofChange wideWritesSpec)

/-- ITS FALSE NEIGHBOUR: 'it returns false'. Refute it at one input. -/
def wideWritesWrong : ChangeSpec := { name := "wideWrites", fn := fun _ => fun
  | [d1, d2] => { results := [.lit (.bool false)], args := [d1, d2] }
  | _ => none }
def WideWritesWrongFalsely : Prop := wideWritesRow.holds Try.pinned (OpenSpec.ofChange wideWritesWrong)

/-- 'twinspanlaw04.WideOrder': WHATEVER THE INPUT: true; the input reads as it did. -/
def wideOrderSpec : ChangeSpec := { name := "wideOrder", fn := fun _ => fun
  | [d1, d2, d3] => { results := [.lit (.bool true)], args := [d1, d2, d3] }
  | _ => none }
def wideOrderRow : OpenClaim := { program := "ytibemleodghhfaa", sum := "2debeaeab92421a7ea664b16f8ab64788f103df8cb1bf0867785f6470dddf497", func := "twinspan/twinspanlaw04.WideOrder", spec := "wideOrder", inPlace := ["math/bits.Add64", "math/bits.Sub64"], named := ["math/bits.divideError", "math/bits.overflowError"], apart := false }
def WideOrderSaid : Prop := wideOrderRow.holds Try.pinned (OpenSpec.ofChange wideOrderSpec)

/-- ITS FALSE NEIGHBOUR: 'it returns false'. Refute it at one input. -/
def wideOrderWrong : ChangeSpec := { name := "wideOrder", fn := fun _ => fun
  | [d1, d2, d3] => { results := [.lit (.bool false)], args := [d1, d2, d3] }
  | _ => none }
def WideOrderWrongFalsely : Prop := wideOrderRow.holds Try.pinned (OpenSpec.ofChange wideOrderWrong)

/- THE SECOND FORM. 'bulk': how many values and letters a reading holds, each counted each time it is reached (what is shared counts as often as it is met; a slice's spare places count too). A statement '..UptoSaid' is the law's where the arguments, and the package variables that the reading takes, are together of bulk at most 1048576: NARROWER than '..Said'. Prove '..Said' where nothing that the law and all that it calls make is longer than what came in: it says more and counts as full. Else prove '..UptoSaid'. A law counts once. -/
mutual
def uptoBulk {H : Type} : DataW H → Nat
  | .lit (.string bytes) => bytes.length + 1
  | .lit _ => 1
  | .nil => 1
  | .ptr d => uptoBulk d + 1
  | .slice elems spare => uptoBulkAll elems + uptoBulkAll spare + 1
  | .agg parts => uptoBulkAll parts + 1
  | .iface _ d => uptoBulk d + 1
  | .map entries => uptoBulkEntries entries + 1
  | .held _ => 1
def uptoBulkAll {H : Type} : List (DataW H) → Nat
  | [] => 0
  | d :: r => uptoBulk d + uptoBulkAll r
def uptoBulkEntries {H : Type} : List (Lit × DataW H) → Nat
  | [] => 0
  | x :: r => uptoBulkEntry x + uptoBulkEntries r
def uptoBulkEntry {H : Type} : Lit × DataW H → Nat
  | (.string bytes, d) => bytes.length + uptoBulk d + 1
  | (_, d) => uptoBulk d + 1
 end
def uptoSmall : (H : Type) → List (DataW H) → Bool := fun _ ds => decide (uptoBulkAll ds ≤ 1048576)
def OpenSpec.upto (s : _root_.Go.ChangeSpec) : _root_.Go.OpenSpec := { _root_.Go.OpenSpec.ofChange s with cond := some uptoSmall }

/-- 'twinspanlaw13.PacketLater', WHERE WHAT IT READS IS OF BULK AT MOST 1048576: true; the input reads as it did. -/
def packetLaterUptoRow : OpenClaim := { program := "ytibemleodghhfaa", sum := "2debeaeab92421a7ea664b16f8ab64788f103df8cb1bf0867785f6470dddf497", func := "twinspan/twinspanlaw13.PacketLater", spec := "packetLater", apart := false, narrowed := true }
def PacketLaterUptoSaid : Prop := packetLaterUptoRow.holds Try.pinned (OpenSpec.upto packetLaterSpec)

/-- 'twinspanlaw04.WideParts', WHERE WHAT IT READS IS OF BULK AT MOST 1048576: true; the input reads as it did. -/
def widePartsUptoRow : OpenClaim := { program := "ytibemleodghhfaa", sum := "2debeaeab92421a7ea664b16f8ab64788f103df8cb1bf0867785f6470dddf497", func := "twinspan/twinspanlaw04.WideParts", spec := "wideParts", inPlace := ["math/bits.Add64", "math/bits.Sub64"], named := ["math/bits.divideError", "math/bits.overflowError"], apart := false, narrowed := true }
def WidePartsUptoSaid : Prop := widePartsUptoRow.holds Try.pinned (OpenSpec.upto widePartsSpec)

/-- 'twinspanlaw04.WideSums', WHERE WHAT IT READS IS OF BULK AT MOST 1048576: true; the input reads as it did. -/
def wideSumsUptoRow : OpenClaim := { program := "ytibemleodghhfaa", sum := "2debeaeab92421a7ea664b16f8ab64788f103df8cb1bf0867785f6470dddf497", func := "twinspan/twinspanlaw04.WideSums", spec := "wideSums", inPlace := ["math/bits.Add64", "math/bits.Sub64"], named := ["math/bits.divideError", "math/bits.overflowError"], apart := false, narrowed := true }
def WideSumsUptoSaid : Prop := wideSumsUptoRow.holds Try.pinned (OpenSpec.upto wideSumsSpec)

/-- 'twinspanlaw04.WideTimes', WHERE WHAT IT READS IS OF BULK AT MOST 1048576: true; the input reads as it did. -/
def wideTimesUptoRow : OpenClaim := { program := "ytibemleodghhfaa", sum := "2debeaeab92421a7ea664b16f8ab64788f103df8cb1bf0867785f6470dddf497", func := "twinspan/twinspanlaw04.WideTimes", spec := "wideTimes", inPlace := ["math/bits.Add64", "math/bits.Sub64"], named := ["math/bits.divideError", "math/bits.overflowError"], apart := false, narrowed := true }
def WideTimesUptoSaid : Prop := wideTimesUptoRow.holds Try.pinned (OpenSpec.upto wideTimesSpec)

/-- 'twinspanlaw04.WideEnds', WHERE WHAT IT READS IS OF BULK AT MOST 1048576: true; the input reads as it did. -/
def wideEndsUptoRow : OpenClaim := { program := "ytibemleodghhfaa", sum := "2debeaeab92421a7ea664b16f8ab64788f103df8cb1bf0867785f6470dddf497", func := "twinspan/twinspanlaw04.WideEnds", spec := "wideEnds", inPlace := ["math/bits.Add64", "math/bits.Sub64"], named := ["math/bits.divideError", "math/bits.overflowError"], apart := false, narrowed := true }
def WideEndsUptoSaid : Prop := wideEndsUptoRow.holds Try.pinned (OpenSpec.upto wideEndsSpec)

/-- 'twinspanlaw04.WideTurns', WHERE WHAT IT READS IS OF BULK AT MOST 1048576: true; the input reads as it did. -/
def wideTurnsUptoRow : OpenClaim := { program := "ytibemleodghhfaa", sum := "2debeaeab92421a7ea664b16f8ab64788f103df8cb1bf0867785f6470dddf497", func := "twinspan/twinspanlaw04.WideTurns", spec := "wideTurns", inPlace := ["math/bits.Add64", "math/bits.Sub64"], named := ["math/bits.divideError", "math/bits.overflowError"], apart := false, narrowed := true }
def WideTurnsUptoSaid : Prop := wideTurnsUptoRow.holds Try.pinned (OpenSpec.upto wideTurnsSpec)

/-- 'twinspanlaw04.WideCounts', WHERE WHAT IT READS IS OF BULK AT MOST 1048576: true; the input reads as it did. -/
def wideCountsUptoRow : OpenClaim := { program := "ytibemleodghhfaa", sum := "2debeaeab92421a7ea664b16f8ab64788f103df8cb1bf0867785f6470dddf497", func := "twinspan/twinspanlaw04.WideCounts", spec := "wideCounts", inPlace := ["math/bits.Add64", "math/bits.Sub64"], named := ["math/bits.divideError", "math/bits.overflowError"], apart := false, narrowed := true }
def WideCountsUptoSaid : Prop := wideCountsUptoRow.holds Try.pinned (OpenSpec.upto wideCountsSpec)

/-- 'twinspanlaw04.WideWrites', WHERE WHAT IT READS IS OF BULK AT MOST 1048576: true; the input reads as it did. -/
def wideWritesUptoRow : OpenClaim := { program := "ytibemleodghhfaa", sum := "2debeaeab92421a7ea664b16f8ab64788f103df8cb1bf0867785f6470dddf497", func := "twinspan/twinspanlaw04.WideWrites", spec := "wideWrites", inPlace := ["math/bits.Add64", "math/bits.Sub64"], named := ["math/bits.divideError", "math/bits.overflowError"], apart := false, narrowed := true }
def WideWritesUptoSaid : Prop := wideWritesUptoRow.holds Try.pinned (OpenSpec.upto wideWritesSpec)

/-- 'twinspanlaw04.WideOrder', WHERE WHAT IT READS IS OF BULK AT MOST 1048576: true; the input reads as it did. -/
def wideOrderUptoRow : OpenClaim := { program := "ytibemleodghhfaa", sum := "2debeaeab92421a7ea664b16f8ab64788f103df8cb1bf0867785f6470dddf497", func := "twinspan/twinspanlaw04.WideOrder", spec := "wideOrder", inPlace := ["math/bits.Add64", "math/bits.Sub64"], named := ["math/bits.divideError", "math/bits.overflowError"], apart := false, narrowed := true }
def WideOrderUptoSaid : Prop := wideOrderUptoRow.holds Try.pinned (OpenSpec.upto wideOrderSpec)

end Rows
end Go.Proofs.Ytibemleodghhfaa

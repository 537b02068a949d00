/-
  NARROWER THAN 'FOR EVERY INPUT', by the rows' own cells (each row's printed sentence says how): HashSums: laid · HashOrder: laid · HashPieces: laid · HashCuts: laid · HashNil: laid · HashTexts: laid · SealSums: laid · SealPieces: laid · SealKeys: laid · SealTurned: laid · SealNil: laid · SealApart: laid.
  DERIVED. THE GIVEN ROWS OF THIS SEAT. 12 by the template 'for every input the law returns true; each argument reads behind the call as it read before'; 0 by the template 'total and deterministic' (their statements: YtidceockbjeaoaaDoorTotals.lean).
  GIVEN WITH THE SEED: the statements are not yours to turn. If you find one false, say at which input.
  Laid BY PROGRAM, IN A SANDBOX (cutbox-rows.mjs): the forced cells as the released guide's own fill.sh prints them over the translation 646cbbbcf56a85cf… (all of the seat's roots in one cut). By AI agents, Wed Nov 11 2026. No macro, syntax, notation, axiom, sorry.
-/
import Derived.Test.YtidceockbjeaoaaDoorChecked
import GoSem.Claim
import GoSem.ClaimJoined
import GoSem.ClaimMapViews
import Derived.JoinedTies
import Derived.KernelRfl
namespace Go.Proofs.YtidceockbjeaoaaDoor
/- THE CELL 'sum', in the pinned program and in every row, IS THE sha256 OF THE DUMP (.gsa) THAT YtidceockbjeaoaaDoorProg.lean LOADS. Nothing in Lean hashes anything: it is a label: what it is worth is what the hold of that sum in a sandbox is worth. -/
noncomputable def Tryd.pinned : Pinned := { name := "ytidceockbjeaoaadoor", sum := "646cbbbcf56a85cf9d5b1f3817fce9383eb850ea9c1a6c0e378f89a9ce103c78", checked := Tryd.checked }
namespace Rows
def none {H : Type} : Left H := { results := [], args := [] }

/- WHAT THE LISTED PACKAGE-LEVEL VARIABLES READ AS WHEN THE CALL BEGINS. Each datum BY PROGRAM (the guide's laid-datum.mjs) off the statement by which the dump's own 'gosem.cut.vars' lays the variable. In a bare row this is a premise. The card (YtidceockbjeaoaaDoorCards.lean) ties it to the program's text. -/
def laid_twinspan_hash_factors {H : Type} : DataW H := .agg [.lit (.int .u32 1116352408), .lit (.int .u32 1899447441), .lit (.int .u32 3049323471), .lit (.int .u32 3921009573), .lit (.int .u32 961987163), .lit (.int .u32 1508970993), .lit (.int .u32 2453635748), .lit (.int .u32 2870763221), .lit (.int .u32 3624381080), .lit (.int .u32 310598401), .lit (.int .u32 607225278), .lit (.int .u32 1426881987), .lit (.int .u32 1925078388), .lit (.int .u32 2162078206), .lit (.int .u32 2614888103), .lit (.int .u32 3248222580), .lit (.int .u32 3835390401), .lit (.int .u32 4022224774), .lit (.int .u32 264347078), .lit (.int .u32 604807628), .lit (.int .u32 770255983), .lit (.int .u32 1249150122), .lit (.int .u32 1555081692), .lit (.int .u32 1996064986), .lit (.int .u32 2554220882), .lit (.int .u32 2821834349), .lit (.int .u32 2952996808), .lit (.int .u32 3210313671), .lit (.int .u32 3336571891), .lit (.int .u32 3584528711), .lit (.int .u32 113926993), .lit (.int .u32 338241895), .lit (.int .u32 666307205), .lit (.int .u32 773529912), .lit (.int .u32 1294757372), .lit (.int .u32 1396182291), .lit (.int .u32 1695183700), .lit (.int .u32 1986661051), .lit (.int .u32 2177026350), .lit (.int .u32 2456956037), .lit (.int .u32 2730485921), .lit (.int .u32 2820302411), .lit (.int .u32 3259730800), .lit (.int .u32 3345764771), .lit (.int .u32 3516065817), .lit (.int .u32 3600352804), .lit (.int .u32 4094571909), .lit (.int .u32 275423344), .lit (.int .u32 430227734), .lit (.int .u32 506948616), .lit (.int .u32 659060556), .lit (.int .u32 883997877), .lit (.int .u32 958139571), .lit (.int .u32 1322822218), .lit (.int .u32 1537002063), .lit (.int .u32 1747873779), .lit (.int .u32 1955562222), .lit (.int .u32 2024104815), .lit (.int .u32 2227730452), .lit (.int .u32 2361852424), .lit (.int .u32 2428436474), .lit (.int .u32 2756734187), .lit (.int .u32 3204031479), .lit (.int .u32 3329325298)]
def laid_twinspan_hash_begin {H : Type} : DataW H := .agg [.lit (.int .u32 1779033703), .lit (.int .u32 3144134277), .lit (.int .u32 1013904242), .lit (.int .u32 2773480762), .lit (.int .u32 1359893119), .lit (.int .u32 2600822924), .lit (.int .u32 528734635), .lit (.int .u32 1541459225)]

/-- 'twinspanlaw02.HashSums': WHATEVER THE INPUT: true; the input reads as it did. -/
def hashSumsSpec : ChangeSpec := { name := "hashSums", fn := fun _ => fun
  | [d1, d2] => { results := [.lit (.bool true)], args := [d1, d2] }
  | _ => none }
def hashSumsRow : OpenClaim := { program := "ytidceockbjeaoaadoor", sum := "646cbbbcf56a85cf9d5b1f3817fce9383eb850ea9c1a6c0e378f89a9ce103c78", func := "twinspan/twinspanlaw02.HashSums", spec := "hashSums", inPlace := ["internal/abi.NoEscape", "internal/bytealg.MakeNoZero"], named := ["twinspan/hash.begin", "twinspan/hash.factors"], apart := false, laid := [("twinspan/hash.factors", laid_twinspan_hash_factors), ("twinspan/hash.begin", laid_twinspan_hash_begin)] }
def HashSumsSaid : Prop := hashSumsRow.holds Tryd.pinned (OpenSpec.ofChange hashSumsSpec)

/-- ITS FALSE NEIGHBOUR: 'it returns false'. Refute it at one input. -/
def hashSumsWrong : ChangeSpec := { name := "hashSums", fn := fun _ => fun
  | [d1, d2] => { results := [.lit (.bool false)], args := [d1, d2] }
  | _ => none }
def HashSumsWrongFalsely : Prop := hashSumsRow.holds Tryd.pinned (OpenSpec.ofChange hashSumsWrong)

/-- 'twinspanlaw02.HashOrder': WHATEVER THE INPUT: true; the input reads as it did. -/
def hashOrderSpec : ChangeSpec := { name := "hashOrder", fn := fun _ => fun
  | [d1, d2, d3] => { results := [.lit (.bool true)], args := [d1, d2, d3] }
  | _ => none }
def hashOrderRow : OpenClaim := { program := "ytidceockbjeaoaadoor", sum := "646cbbbcf56a85cf9d5b1f3817fce9383eb850ea9c1a6c0e378f89a9ce103c78", func := "twinspan/twinspanlaw02.HashOrder", spec := "hashOrder", inPlace := ["internal/abi.NoEscape", "internal/bytealg.MakeNoZero"], named := ["twinspan/hash.begin", "twinspan/hash.factors"], apart := false, laid := [("twinspan/hash.factors", laid_twinspan_hash_factors), ("twinspan/hash.begin", laid_twinspan_hash_begin)] }
def HashOrderSaid : Prop := hashOrderRow.holds Tryd.pinned (OpenSpec.ofChange hashOrderSpec)

/-- ITS FALSE NEIGHBOUR: 'it returns false'. Refute it at one input. -/
def hashOrderWrong : ChangeSpec := { name := "hashOrder", fn := fun _ => fun
  | [d1, d2, d3] => { results := [.lit (.bool false)], args := [d1, d2, d3] }
  | _ => none }
def HashOrderWrongFalsely : Prop := hashOrderRow.holds Tryd.pinned (OpenSpec.ofChange hashOrderWrong)

/-- 'twinspanlaw02.HashPieces': WHATEVER THE INPUT: true; the input reads as it did. -/
def hashPiecesSpec : ChangeSpec := { name := "hashPieces", fn := fun _ => fun
  | [d] => { results := [.lit (.bool true)], args := [d] }
  | _ => none }
def hashPiecesRow : OpenClaim := { program := "ytidceockbjeaoaadoor", sum := "646cbbbcf56a85cf9d5b1f3817fce9383eb850ea9c1a6c0e378f89a9ce103c78", func := "twinspan/twinspanlaw02.HashPieces", spec := "hashPieces", inPlace := ["internal/abi.NoEscape", "internal/bytealg.MakeNoZero"], named := ["twinspan/hash.begin", "twinspan/hash.factors"], apart := false, laid := [("twinspan/hash.factors", laid_twinspan_hash_factors), ("twinspan/hash.begin", laid_twinspan_hash_begin)] }
def HashPiecesSaid : Prop := hashPiecesRow.holds Tryd.pinned (OpenSpec.ofChange hashPiecesSpec)

/-- ITS FALSE NEIGHBOUR: 'it returns false'. Refute it at one input. -/
def hashPiecesWrong : ChangeSpec := { name := "hashPieces", fn := fun _ => fun
  | [d] => { results := [.lit (.bool false)], args := [d] }
  | _ => none }
def HashPiecesWrongFalsely : Prop := hashPiecesRow.holds Tryd.pinned (OpenSpec.ofChange hashPiecesWrong)

/-- 'twinspanlaw02.HashCuts': WHATEVER THE INPUT: true; the input reads as it did. -/
def hashCutsSpec : ChangeSpec := { name := "hashCuts", fn := fun _ => fun
  | [d1, d2] => { results := [.lit (.bool true)], args := [d1, d2] }
  | _ => none }
def hashCutsRow : OpenClaim := { program := "ytidceockbjeaoaadoor", sum := "646cbbbcf56a85cf9d5b1f3817fce9383eb850ea9c1a6c0e378f89a9ce103c78", func := "twinspan/twinspanlaw02.HashCuts", spec := "hashCuts", inPlace := ["internal/abi.NoEscape", "internal/bytealg.MakeNoZero"], named := ["twinspan/hash.begin", "twinspan/hash.factors"], apart := false, laid := [("twinspan/hash.factors", laid_twinspan_hash_factors), ("twinspan/hash.begin", laid_twinspan_hash_begin)] }
def HashCutsSaid : Prop := hashCutsRow.holds Tryd.pinned (OpenSpec.ofChange hashCutsSpec)

/-- ITS FALSE NEIGHBOUR: 'it returns false'. Refute it at one input. -/
def hashCutsWrong : ChangeSpec := { name := "hashCuts", fn := fun _ => fun
  | [d1, d2] => { results := [.lit (.bool false)], args := [d1, d2] }
  | _ => none }
def HashCutsWrongFalsely : Prop := hashCutsRow.holds Tryd.pinned (OpenSpec.ofChange hashCutsWrong)

/-- 'twinspanlaw02.HashNil': WHATEVER THE INPUT: true; the input reads as it did. -/
def hashNilSpec : ChangeSpec := { name := "hashNil", fn := fun _ => fun
  | [d] => { results := [.lit (.bool true)], args := [d] }
  | _ => none }
def hashNilRow : OpenClaim := { program := "ytidceockbjeaoaadoor", sum := "646cbbbcf56a85cf9d5b1f3817fce9383eb850ea9c1a6c0e378f89a9ce103c78", func := "twinspan/twinspanlaw02.HashNil", spec := "hashNil", inPlace := ["internal/abi.NoEscape", "internal/bytealg.MakeNoZero"], named := ["twinspan/hash.begin", "twinspan/hash.factors"], apart := false, laid := [("twinspan/hash.factors", laid_twinspan_hash_factors), ("twinspan/hash.begin", laid_twinspan_hash_begin)] }
def HashNilSaid : Prop := hashNilRow.holds Tryd.pinned (OpenSpec.ofChange hashNilSpec)

/-- ITS FALSE NEIGHBOUR: 'it returns false'. Refute it at one input. -/
def hashNilWrong : ChangeSpec := { name := "hashNil", fn := fun _ => fun
  | [d] => { results := [.lit (.bool false)], args := [d] }
  | _ => none }
def HashNilWrongFalsely : Prop := hashNilRow.holds Tryd.pinned (OpenSpec.ofChange hashNilWrong)

/-- 'twinspanlaw02.HashTexts': WHATEVER THE INPUT: true; the input reads as it did. -/
def hashTextsSpec : ChangeSpec := { name := "hashTexts", fn := fun _ => fun
  | [d1, d2, d3] => { results := [.lit (.bool true)], args := [d1, d2, d3] }
  | _ => none }
def hashTextsRow : OpenClaim := { program := "ytidceockbjeaoaadoor", sum := "646cbbbcf56a85cf9d5b1f3817fce9383eb850ea9c1a6c0e378f89a9ce103c78", func := "twinspan/twinspanlaw02.HashTexts", spec := "hashTexts", inPlace := ["internal/abi.NoEscape", "internal/bytealg.MakeNoZero"], named := ["twinspan/hash.begin", "twinspan/hash.factors"], apart := false, laid := [("twinspan/hash.factors", laid_twinspan_hash_factors), ("twinspan/hash.begin", laid_twinspan_hash_begin)] }
def HashTextsSaid : Prop := hashTextsRow.holds Tryd.pinned (OpenSpec.ofChange hashTextsSpec)

/-- ITS FALSE NEIGHBOUR: 'it returns false'. Refute it at one input. -/
def hashTextsWrong : ChangeSpec := { name := "hashTexts", fn := fun _ => fun
  | [d1, d2, d3] => { results := [.lit (.bool false)], args := [d1, d2, d3] }
  | _ => none }
def HashTextsWrongFalsely : Prop := hashTextsRow.holds Tryd.pinned (OpenSpec.ofChange hashTextsWrong)

/-- 'twinspanlaw03.SealSums': WHATEVER THE INPUT: true; the input reads as it did. -/
def sealSumsSpec : ChangeSpec := { name := "sealSums", fn := fun _ => fun
  | [d1, d2, d3] => { results := [.lit (.bool true)], args := [d1, d2, d3] }
  | _ => none }
def sealSumsRow : OpenClaim := { program := "ytidceockbjeaoaadoor", sum := "646cbbbcf56a85cf9d5b1f3817fce9383eb850ea9c1a6c0e378f89a9ce103c78", func := "twinspan/twinspanlaw03.SealSums", spec := "sealSums", inPlace := ["internal/abi.NoEscape", "internal/bytealg.MakeNoZero"], unfollowed := true, recurses := true, named := ["twinspan/hash.begin", "twinspan/hash.factors"], apart := false, laid := [("twinspan/hash.factors", laid_twinspan_hash_factors), ("twinspan/hash.begin", laid_twinspan_hash_begin)] }
def SealSumsSaid : Prop := sealSumsRow.holds Tryd.pinned (OpenSpec.ofChange sealSumsSpec)

/-- ITS FALSE NEIGHBOUR: 'it returns false'. Refute it at one input. -/
def sealSumsWrong : ChangeSpec := { name := "sealSums", fn := fun _ => fun
  | [d1, d2, d3] => { results := [.lit (.bool false)], args := [d1, d2, d3] }
  | _ => none }
def SealSumsWrongFalsely : Prop := sealSumsRow.holds Tryd.pinned (OpenSpec.ofChange sealSumsWrong)

/-- 'twinspanlaw03.SealPieces': WHATEVER THE INPUT: true; the input reads as it did. -/
def sealPiecesSpec : ChangeSpec := { name := "sealPieces", fn := fun _ => fun
  | [d1, d2, d3] => { results := [.lit (.bool true)], args := [d1, d2, d3] }
  | _ => none }
def sealPiecesRow : OpenClaim := { program := "ytidceockbjeaoaadoor", sum := "646cbbbcf56a85cf9d5b1f3817fce9383eb850ea9c1a6c0e378f89a9ce103c78", func := "twinspan/twinspanlaw03.SealPieces", spec := "sealPieces", inPlace := ["internal/abi.NoEscape", "internal/bytealg.MakeNoZero"], unfollowed := true, recurses := true, named := ["twinspan/hash.begin", "twinspan/hash.factors"], apart := false, laid := [("twinspan/hash.factors", laid_twinspan_hash_factors), ("twinspan/hash.begin", laid_twinspan_hash_begin)] }
def SealPiecesSaid : Prop := sealPiecesRow.holds Tryd.pinned (OpenSpec.ofChange sealPiecesSpec)

/-- ITS FALSE NEIGHBOUR: 'it returns false'. Refute it at one input. -/
def sealPiecesWrong : ChangeSpec := { name := "sealPieces", fn := fun _ => fun
  | [d1, d2, d3] => { results := [.lit (.bool false)], args := [d1, d2, d3] }
  | _ => none }
def SealPiecesWrongFalsely : Prop := sealPiecesRow.holds Tryd.pinned (OpenSpec.ofChange sealPiecesWrong)

/-- 'twinspanlaw03.SealKeys': WHATEVER THE INPUT: true; the input reads as it did. -/
def sealKeysSpec : ChangeSpec := { name := "sealKeys", fn := fun _ => fun
  | [d1, d2] => { results := [.lit (.bool true)], args := [d1, d2] }
  | _ => none }
def sealKeysRow : OpenClaim := { program := "ytidceockbjeaoaadoor", sum := "646cbbbcf56a85cf9d5b1f3817fce9383eb850ea9c1a6c0e378f89a9ce103c78", func := "twinspan/twinspanlaw03.SealKeys", spec := "sealKeys", inPlace := ["internal/abi.NoEscape", "internal/bytealg.MakeNoZero"], unfollowed := true, recurses := true, named := ["twinspan/hash.begin", "twinspan/hash.factors"], apart := false, laid := [("twinspan/hash.factors", laid_twinspan_hash_factors), ("twinspan/hash.begin", laid_twinspan_hash_begin)] }
def SealKeysSaid : Prop := sealKeysRow.holds Tryd.pinned (OpenSpec.ofChange sealKeysSpec)

/-- ITS FALSE NEIGHBOUR: 'it returns false'. Refute it at one input. -/
def sealKeysWrong : ChangeSpec := { name := "sealKeys", fn := fun _ => fun
  | [d1, d2] => { results := [.lit (.bool false)], args := [d1, d2] }
  | _ => none }
def SealKeysWrongFalsely : Prop := sealKeysRow.holds Tryd.pinned (OpenSpec.ofChange sealKeysWrong)

/-- 'twinspanlaw03.SealTurned': WHATEVER THE INPUT: true; the input reads as it did. -/
def sealTurnedSpec : ChangeSpec := { name := "sealTurned", fn := fun _ => fun
  | [d1, d2, d3] => { results := [.lit (.bool true)], args := [d1, d2, d3] }
  | _ => none }
def sealTurnedRow : OpenClaim := { program := "ytidceockbjeaoaadoor", sum := "646cbbbcf56a85cf9d5b1f3817fce9383eb850ea9c1a6c0e378f89a9ce103c78", func := "twinspan/twinspanlaw03.SealTurned", spec := "sealTurned", inPlace := ["internal/abi.NoEscape", "internal/bytealg.MakeNoZero"], unfollowed := true, recurses := true, named := ["twinspan/hash.begin", "twinspan/hash.factors"], apart := false, laid := [("twinspan/hash.factors", laid_twinspan_hash_factors), ("twinspan/hash.begin", laid_twinspan_hash_begin)] }
def SealTurnedSaid : Prop := sealTurnedRow.holds Tryd.pinned (OpenSpec.ofChange sealTurnedSpec)

/-- ITS FALSE NEIGHBOUR: 'it returns false'. Refute it at one input. -/
def sealTurnedWrong : ChangeSpec := { name := "sealTurned", fn := fun _ => fun
  | [d1, d2, d3] => { results := [.lit (.bool false)], args := [d1, d2, d3] }
  | _ => none }
def SealTurnedWrongFalsely : Prop := sealTurnedRow.holds Tryd.pinned (OpenSpec.ofChange sealTurnedWrong)

/-- 'twinspanlaw03.SealNil': WHATEVER THE INPUT: true; the input reads as it did. -/
def sealNilSpec : ChangeSpec := { name := "sealNil", fn := fun _ => fun
  | [d] => { results := [.lit (.bool true)], args := [d] }
  | _ => none }
def sealNilRow : OpenClaim := { program := "ytidceockbjeaoaadoor", sum := "646cbbbcf56a85cf9d5b1f3817fce9383eb850ea9c1a6c0e378f89a9ce103c78", func := "twinspan/twinspanlaw03.SealNil", spec := "sealNil", inPlace := ["internal/abi.NoEscape", "internal/bytealg.MakeNoZero"], unfollowed := true, recurses := true, named := ["twinspan/hash.begin", "twinspan/hash.factors"], apart := false, laid := [("twinspan/hash.factors", laid_twinspan_hash_factors), ("twinspan/hash.begin", laid_twinspan_hash_begin)] }
def SealNilSaid : Prop := sealNilRow.holds Tryd.pinned (OpenSpec.ofChange sealNilSpec)

/-- ITS FALSE NEIGHBOUR: 'it returns false'. Refute it at one input. -/
def sealNilWrong : ChangeSpec := { name := "sealNil", fn := fun _ => fun
  | [d] => { results := [.lit (.bool false)], args := [d] }
  | _ => none }
def SealNilWrongFalsely : Prop := sealNilRow.holds Tryd.pinned (OpenSpec.ofChange sealNilWrong)

/-- 'twinspanlaw03.SealApart': WHATEVER THE INPUT: true; the input reads as it did. -/
def sealApartSpec : ChangeSpec := { name := "sealApart", fn := fun _ => fun
  | [d1, d2, d3] => { results := [.lit (.bool true)], args := [d1, d2, d3] }
  | _ => none }
def sealApartRow : OpenClaim := { program := "ytidceockbjeaoaadoor", sum := "646cbbbcf56a85cf9d5b1f3817fce9383eb850ea9c1a6c0e378f89a9ce103c78", func := "twinspan/twinspanlaw03.SealApart", spec := "sealApart", inPlace := ["internal/abi.NoEscape", "internal/bytealg.MakeNoZero"], unfollowed := true, recurses := true, named := ["twinspan/hash.begin", "twinspan/hash.factors"], apart := false, laid := [("twinspan/hash.factors", laid_twinspan_hash_factors), ("twinspan/hash.begin", laid_twinspan_hash_begin)] }
def SealApartSaid : Prop := sealApartRow.holds Tryd.pinned (OpenSpec.ofChange sealApartSpec)

/-- ITS FALSE NEIGHBOUR: 'it returns false'. Refute it at one input. -/
def sealApartWrong : ChangeSpec := { name := "sealApart", fn := fun _ => fun
  | [d1, d2, d3] => { results := [.lit (.bool false)], args := [d1, d2, d3] }
  | _ => none }
def SealApartWrongFalsely : Prop := sealApartRow.holds Tryd.pinned (OpenSpec.ofChange sealApartWrong)

/- THE SECOND FORM. 'bulk': how many values and letters a reading holds, each counted each time it is reached (what is shared counts as often as it is met; a slice's spare places count too). A statement '..UptoSaid' is the law's where the arguments, and the package variables that the reading takes, are together of bulk at most 1048576: NARROWER than '..Said'. Prove '..Said' where nothing that the law and all that it calls make is longer than what came in: it says more and counts as full. Else prove '..UptoSaid'. A law counts once. -/
mutual
def uptoBulk {H : Type} : DataW H → Nat
  | .lit (.string bytes) => bytes.length + 1
  | .lit _ => 1
  | .nil => 1
  | .ptr d => uptoBulk d + 1
  | .slice elems spare => uptoBulkAll elems + uptoBulkAll spare + 1
  | .agg parts => uptoBulkAll parts + 1
  | .iface _ d => uptoBulk d + 1
  | .map entries => uptoBulkEntries entries + 1
  | .held _ => 1
def uptoBulkAll {H : Type} : List (DataW H) → Nat
  | [] => 0
  | d :: r => uptoBulk d + uptoBulkAll r
def uptoBulkEntries {H : Type} : List (Lit × DataW H) → Nat
  | [] => 0
  | x :: r => uptoBulkEntry x + uptoBulkEntries r
def uptoBulkEntry {H : Type} : Lit × DataW H → Nat
  | (.string bytes, d) => bytes.length + uptoBulk d + 1
  | (_, d) => uptoBulk d + 1
 end
def uptoSmall : (H : Type) → List (DataW H) → Bool := fun _ ds => decide (uptoBulkAll ds ≤ 1048576)
def OpenSpec.upto (s : _root_.Go.ChangeSpec) : _root_.Go.OpenSpec := { _root_.Go.OpenSpec.ofChange s with cond := some uptoSmall }

/-- 'twinspanlaw02.HashSums', WHERE WHAT IT READS IS OF BULK AT MOST 1048576: true; the input reads as it did. -/
def hashSumsUptoRow : OpenClaim := { program := "ytidceockbjeaoaadoor", sum := "646cbbbcf56a85cf9d5b1f3817fce9383eb850ea9c1a6c0e378f89a9ce103c78", func := "twinspan/twinspanlaw02.HashSums", spec := "hashSums", inPlace := ["internal/abi.NoEscape", "internal/bytealg.MakeNoZero"], named := ["twinspan/hash.begin", "twinspan/hash.factors"], apart := false, laid := [("twinspan/hash.factors", laid_twinspan_hash_factors), ("twinspan/hash.begin", laid_twinspan_hash_begin)], narrowed := true }
def HashSumsUptoSaid : Prop := hashSumsUptoRow.holds Tryd.pinned (OpenSpec.upto hashSumsSpec)

/-- 'twinspanlaw02.HashOrder', WHERE WHAT IT READS IS OF BULK AT MOST 1048576: true; the input reads as it did. -/
def hashOrderUptoRow : OpenClaim := { program := "ytidceockbjeaoaadoor", sum := "646cbbbcf56a85cf9d5b1f3817fce9383eb850ea9c1a6c0e378f89a9ce103c78", func := "twinspan/twinspanlaw02.HashOrder", spec := "hashOrder", inPlace := ["internal/abi.NoEscape", "internal/bytealg.MakeNoZero"], named := ["twinspan/hash.begin", "twinspan/hash.factors"], apart := false, laid := [("twinspan/hash.factors", laid_twinspan_hash_factors), ("twinspan/hash.begin", laid_twinspan_hash_begin)], narrowed := true }
def HashOrderUptoSaid : Prop := hashOrderUptoRow.holds Tryd.pinned (OpenSpec.upto hashOrderSpec)

/-- 'twinspanlaw02.HashPieces', WHERE WHAT IT READS IS OF BULK AT MOST 1048576: true; the input reads as it did. -/
def hashPiecesUptoRow : OpenClaim := { program := "ytidceockbjeaoaadoor", sum := "646cbbbcf56a85cf9d5b1f3817fce9383eb850ea9c1a6c0e378f89a9ce103c78", func := "twinspan/twinspanlaw02.HashPieces", spec := "hashPieces", inPlace := ["internal/abi.NoEscape", "internal/bytealg.MakeNoZero"], named := ["twinspan/hash.begin", "twinspan/hash.factors"], apart := false, laid := [("twinspan/hash.factors", laid_twinspan_hash_factors), ("twinspan/hash.begin", laid_twinspan_hash_begin)], narrowed := true }
def HashPiecesUptoSaid : Prop := hashPiecesUptoRow.holds Tryd.pinned (OpenSpec.upto hashPiecesSpec)

/-- 'twinspanlaw02.HashCuts', WHERE WHAT IT READS IS OF BULK AT MOST 1048576: true; the input reads as it did. -/
def hashCutsUptoRow : OpenClaim := { program := "ytidceockbjeaoaadoor", sum := "646cbbbcf56a85cf9d5b1f3817fce9383eb850ea9c1a6c0e378f89a9ce103c78", func := "twinspan/twinspanlaw02.HashCuts", spec := "hashCuts", inPlace := ["internal/abi.NoEscape", "internal/bytealg.MakeNoZero"], named := ["twinspan/hash.begin", "twinspan/hash.factors"], apart := false, laid := [("twinspan/hash.factors", laid_twinspan_hash_factors), ("twinspan/hash.begin", laid_twinspan_hash_begin)], narrowed := true }
def HashCutsUptoSaid : Prop := hashCutsUptoRow.holds Tryd.pinned (OpenSpec.upto hashCutsSpec)

/-- 'twinspanlaw02.HashNil', WHERE WHAT IT READS IS OF BULK AT MOST 1048576: true; the input reads as it did. -/
def hashNilUptoRow : OpenClaim := { program := "ytidceockbjeaoaadoor", sum := "646cbbbcf56a85cf9d5b1f3817fce9383eb850ea9c1a6c0e378f89a9ce103c78", func := "twinspan/twinspanlaw02.HashNil", spec := "hashNil", inPlace := ["internal/abi.NoEscape", "internal/bytealg.MakeNoZero"], named := ["twinspan/hash.begin", "twinspan/hash.factors"], apart := false, laid := [("twinspan/hash.factors", laid_twinspan_hash_factors), ("twinspan/hash.begin", laid_twinspan_hash_begin)], narrowed := true }
def HashNilUptoSaid : Prop := hashNilUptoRow.holds Tryd.pinned (OpenSpec.upto hashNilSpec)

/-- 'twinspanlaw02.HashTexts', WHERE WHAT IT READS IS OF BULK AT MOST 1048576: true; the input reads as it did. -/
def hashTextsUptoRow : OpenClaim := { program := "ytidceockbjeaoaadoor", sum := "646cbbbcf56a85cf9d5b1f3817fce9383eb850ea9c1a6c0e378f89a9ce103c78", func := "twinspan/twinspanlaw02.HashTexts", spec := "hashTexts", inPlace := ["internal/abi.NoEscape", "internal/bytealg.MakeNoZero"], named := ["twinspan/hash.begin", "twinspan/hash.factors"], apart := false, laid := [("twinspan/hash.factors", laid_twinspan_hash_factors), ("twinspan/hash.begin", laid_twinspan_hash_begin)], narrowed := true }
def HashTextsUptoSaid : Prop := hashTextsUptoRow.holds Tryd.pinned (OpenSpec.upto hashTextsSpec)

/-- 'twinspanlaw03.SealSums', WHERE WHAT IT READS IS OF BULK AT MOST 1048576: true; the input reads as it did. -/
def sealSumsUptoRow : OpenClaim := { program := "ytidceockbjeaoaadoor", sum := "646cbbbcf56a85cf9d5b1f3817fce9383eb850ea9c1a6c0e378f89a9ce103c78", func := "twinspan/twinspanlaw03.SealSums", spec := "sealSums", inPlace := ["internal/abi.NoEscape", "internal/bytealg.MakeNoZero"], unfollowed := true, recurses := true, named := ["twinspan/hash.begin", "twinspan/hash.factors"], apart := false, laid := [("twinspan/hash.factors", laid_twinspan_hash_factors), ("twinspan/hash.begin", laid_twinspan_hash_begin)], narrowed := true }
def SealSumsUptoSaid : Prop := sealSumsUptoRow.holds Tryd.pinned (OpenSpec.upto sealSumsSpec)

/-- 'twinspanlaw03.SealPieces', WHERE WHAT IT READS IS OF BULK AT MOST 1048576: true; the input reads as it did. -/
def sealPiecesUptoRow : OpenClaim := { program := "ytidceockbjeaoaadoor", sum := "646cbbbcf56a85cf9d5b1f3817fce9383eb850ea9c1a6c0e378f89a9ce103c78", func := "twinspan/twinspanlaw03.SealPieces", spec := "sealPieces", inPlace := ["internal/abi.NoEscape", "internal/bytealg.MakeNoZero"], unfollowed := true, recurses := true, named := ["twinspan/hash.begin", "twinspan/hash.factors"], apart := false, laid := [("twinspan/hash.factors", laid_twinspan_hash_factors), ("twinspan/hash.begin", laid_twinspan_hash_begin)], narrowed := true }
def SealPiecesUptoSaid : Prop := sealPiecesUptoRow.holds Tryd.pinned (OpenSpec.upto sealPiecesSpec)

/-- 'twinspanlaw03.SealKeys', WHERE WHAT IT READS IS OF BULK AT MOST 1048576: true; the input reads as it did. -/
def sealKeysUptoRow : OpenClaim := { program := "ytidceockbjeaoaadoor", sum := "646cbbbcf56a85cf9d5b1f3817fce9383eb850ea9c1a6c0e378f89a9ce103c78", func := "twinspan/twinspanlaw03.SealKeys", spec := "sealKeys", inPlace := ["internal/abi.NoEscape", "internal/bytealg.MakeNoZero"], unfollowed := true, recurses := true, named := ["twinspan/hash.begin", "twinspan/hash.factors"], apart := false, laid := [("twinspan/hash.factors", laid_twinspan_hash_factors), ("twinspan/hash.begin", laid_twinspan_hash_begin)], narrowed := true }
def SealKeysUptoSaid : Prop := sealKeysUptoRow.holds Tryd.pinned (OpenSpec.upto sealKeysSpec)

/-- 'twinspanlaw03.SealTurned', WHERE WHAT IT READS IS OF BULK AT MOST 1048576: true; the input reads as it did. -/
def sealTurnedUptoRow : OpenClaim := { program := "ytidceockbjeaoaadoor", sum := "646cbbbcf56a85cf9d5b1f3817fce9383eb850ea9c1a6c0e378f89a9ce103c78", func := "twinspan/twinspanlaw03.SealTurned", spec := "sealTurned", inPlace := ["internal/abi.NoEscape", "internal/bytealg.MakeNoZero"], unfollowed := true, recurses := true, named := ["twinspan/hash.begin", "twinspan/hash.factors"], apart := false, laid := [("twinspan/hash.factors", laid_twinspan_hash_factors), ("twinspan/hash.begin", laid_twinspan_hash_begin)], narrowed := true }
def SealTurnedUptoSaid : Prop := sealTurnedUptoRow.holds Tryd.pinned (OpenSpec.upto sealTurnedSpec)

/-- 'twinspanlaw03.SealNil', WHERE WHAT IT READS IS OF BULK AT MOST 1048576: true; the input reads as it did. -/
def sealNilUptoRow : OpenClaim := { program := "ytidceockbjeaoaadoor", sum := "646cbbbcf56a85cf9d5b1f3817fce9383eb850ea9c1a6c0e378f89a9ce103c78", func := "twinspan/twinspanlaw03.SealNil", spec := "sealNil", inPlace := ["internal/abi.NoEscape", "internal/bytealg.MakeNoZero"], unfollowed := true, recurses := true, named := ["twinspan/hash.begin", "twinspan/hash.factors"], apart := false, laid := [("twinspan/hash.factors", laid_twinspan_hash_factors), ("twinspan/hash.begin", laid_twinspan_hash_begin)], narrowed := true }
def SealNilUptoSaid : Prop := sealNilUptoRow.holds Tryd.pinned (OpenSpec.upto sealNilSpec)

/-- 'twinspanlaw03.SealApart', WHERE WHAT IT READS IS OF BULK AT MOST 1048576: true; the input reads as it did. -/
def sealApartUptoRow : OpenClaim := { program := "ytidceockbjeaoaadoor", sum := "646cbbbcf56a85cf9d5b1f3817fce9383eb850ea9c1a6c0e378f89a9ce103c78", func := "twinspan/twinspanlaw03.SealApart", spec := "sealApart", inPlace := ["internal/abi.NoEscape", "internal/bytealg.MakeNoZero"], unfollowed := true, recurses := true, named := ["twinspan/hash.begin", "twinspan/hash.factors"], apart := false, laid := [("twinspan/hash.factors", laid_twinspan_hash_factors), ("twinspan/hash.begin", laid_twinspan_hash_begin)], narrowed := true }
def SealApartUptoSaid : Prop := sealApartUptoRow.holds Tryd.pinned (OpenSpec.upto sealApartSpec)

end Rows
end Go.Proofs.YtidceockbjeaoaaDoor

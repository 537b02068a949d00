/-
  No cell of these rows narrows 'for every input' (looked for: loops, veiled, ifaces, maps, wideKeys, modest, calm, conditions, laid).
  DERIVED. THE GIVEN ROWS OF THIS SEAT. 6 by the template 'for every input the law returns true; each argument reads behind the call as it read before'; 0 by the template 'total and deterministic' (their statements: YtbimnfmjgmfijaaTotals.lean).
  GIVEN WITH THE SEED: the statements are not yours to turn. If you find one false, say at which input.
  Laid BY PROGRAM, IN A SANDBOX (cutbox-rows.mjs): the forced cells as the released guide's own fill.sh prints them over the translation c7812fd858d19ee4… (all of the seat's roots in one cut). By AI agents, Wed Nov 11 2026. No macro, syntax, notation, axiom, sorry.
-/
import Derived.Test.YtbimnfmjgmfijaaChecked
import GoSem.Claim
import GoSem.ClaimJoined
import GoSem.ClaimMapViews
import Derived.JoinedTies
import Derived.KernelRfl
namespace Go.Proofs.Ytbimnfmjgmfijaa
/- THE CELL 'sum', in the pinned program and in every row, IS THE sha256 OF THE DUMP (.gsa) THAT YtbimnfmjgmfijaaProg.lean LOADS. Nothing in Lean hashes anything: it is a label: what it is worth is what the hold of that sum in a sandbox is worth. -/
noncomputable def Try.pinned : Pinned := { name := "ytbimnfmjgmfijaa", sum := "c7812fd858d19ee46adfbb3ae937b1d2a28b9107c8bbd2cbd6ecc7f4ae6a4ac6", checked := Try.checked }
namespace Rows
def none {H : Type} : Left H := { results := [], args := [] }

/-- 'twinspanlaw11.BankKeys': WHATEVER THE INPUT: true; the input reads as it did. -/
def bankKeysSpec : ChangeSpec := { name := "bankKeys", fn := fun _ => fun
  | [d1, d2] => { results := [.lit (.bool true)], args := [d1, d2] }
  | _ => none }
def bankKeysRow : OpenClaim := { program := "ytbimnfmjgmfijaa", sum := "c7812fd858d19ee46adfbb3ae937b1d2a28b9107c8bbd2cbd6ecc7f4ae6a4ac6", func := "twinspan/twinspanlaw11.BankKeys", spec := "bankKeys", inPlace := ["internal/bytealg.abigen_runtime_cmpstring", "math/bits.Add64", "slices.overlaps[twinspan/api.Entry]", "math/bits.Sub64"], unfollowed := true, recurses := true, apart := false }
def BankKeysSaid : Prop := bankKeysRow.holds Try.pinned (OpenSpec.ofChange bankKeysSpec)

/-- ITS FALSE NEIGHBOUR: 'it returns false'. Refute it at one input. -/
def bankKeysWrong : ChangeSpec := { name := "bankKeys", fn := fun _ => fun
  | [d1, d2] => { results := [.lit (.bool false)], args := [d1, d2] }
  | _ => none }
def BankKeysWrongFalsely : Prop := bankKeysRow.holds Try.pinned (OpenSpec.ofChange bankKeysWrong)

/-- 'twinspanlaw11.BankTotal': WHATEVER THE INPUT: true; the input reads as it did. -/
def bankTotalSpec : ChangeSpec := { name := "bankTotal", fn := fun _ => fun
  | [d] => { results := [.lit (.bool true)], args := [d] }
  | _ => none }
def bankTotalRow : OpenClaim := { program := "ytbimnfmjgmfijaa", sum := "c7812fd858d19ee46adfbb3ae937b1d2a28b9107c8bbd2cbd6ecc7f4ae6a4ac6", func := "twinspan/twinspanlaw11.BankTotal", spec := "bankTotal", inPlace := ["internal/bytealg.abigen_runtime_cmpstring", "math/bits.Add64", "slices.overlaps[twinspan/api.Entry]", "math/bits.Sub64"], unfollowed := true, recurses := true, apart := false }
def BankTotalSaid : Prop := bankTotalRow.holds Try.pinned (OpenSpec.ofChange bankTotalSpec)

/-- ITS FALSE NEIGHBOUR: 'it returns false'. Refute it at one input. -/
def bankTotalWrong : ChangeSpec := { name := "bankTotal", fn := fun _ => fun
  | [d] => { results := [.lit (.bool false)], args := [d] }
  | _ => none }
def BankTotalWrongFalsely : Prop := bankTotalRow.holds Try.pinned (OpenSpec.ofChange bankTotalWrong)

/-- 'twinspanlaw11.BankPlays': WHATEVER THE INPUT: true; the input reads as it did. -/
def bankPlaysSpec : ChangeSpec := { name := "bankPlays", fn := fun _ => fun
  | [d] => { results := [.lit (.bool true)], args := [d] }
  | _ => none }
def bankPlaysRow : OpenClaim := { program := "ytbimnfmjgmfijaa", sum := "c7812fd858d19ee46adfbb3ae937b1d2a28b9107c8bbd2cbd6ecc7f4ae6a4ac6", func := "twinspan/twinspanlaw11.BankPlays", spec := "bankPlays", inPlace := ["internal/bytealg.abigen_runtime_cmpstring", "math/bits.Add64", "slices.overlaps[twinspan/api.Entry]", "math/bits.Sub64"], unfollowed := true, recurses := true, apart := false }
def BankPlaysSaid : Prop := bankPlaysRow.holds Try.pinned (OpenSpec.ofChange bankPlaysSpec)

/-- ITS FALSE NEIGHBOUR: 'it returns false'. Refute it at one input. -/
def bankPlaysWrong : ChangeSpec := { name := "bankPlays", fn := fun _ => fun
  | [d] => { results := [.lit (.bool false)], args := [d] }
  | _ => none }
def BankPlaysWrongFalsely : Prop := bankPlaysRow.holds Try.pinned (OpenSpec.ofChange bankPlaysWrong)

/-- 'twinspanlaw11.BankAny': WHATEVER THE INPUT: true; the input reads as it did. -/
def bankAnySpec : ChangeSpec := { name := "bankAny", fn := fun _ => fun
  | [d1, d2, d3] => { results := [.lit (.bool true)], args := [d1, d2, d3] }
  | _ => none }
def bankAnyRow : OpenClaim := { program := "ytbimnfmjgmfijaa", sum := "c7812fd858d19ee46adfbb3ae937b1d2a28b9107c8bbd2cbd6ecc7f4ae6a4ac6", func := "twinspan/twinspanlaw11.BankAny", spec := "bankAny", inPlace := ["internal/bytealg.abigen_runtime_cmpstring", "math/bits.Add64", "slices.overlaps[twinspan/api.Entry]", "math/bits.Sub64"], unfollowed := true, recurses := true, apart := false }
def BankAnySaid : Prop := bankAnyRow.holds Try.pinned (OpenSpec.ofChange bankAnySpec)

/-- ITS FALSE NEIGHBOUR: 'it returns false'. Refute it at one input. -/
def bankAnyWrong : ChangeSpec := { name := "bankAny", fn := fun _ => fun
  | [d1, d2, d3] => { results := [.lit (.bool false)], args := [d1, d2, d3] }
  | _ => none }
def BankAnyWrongFalsely : Prop := bankAnyRow.holds Try.pinned (OpenSpec.ofChange bankAnyWrong)

/-- 'twinspanlaw11.BankSplit': WHATEVER THE INPUT: true; the input reads as it did. -/
def bankSplitSpec : ChangeSpec := { name := "bankSplit", fn := fun _ => fun
  | [d1, d2, d3] => { results := [.lit (.bool true)], args := [d1, d2, d3] }
  | _ => none }
def bankSplitRow : OpenClaim := { program := "ytbimnfmjgmfijaa", sum := "c7812fd858d19ee46adfbb3ae937b1d2a28b9107c8bbd2cbd6ecc7f4ae6a4ac6", func := "twinspan/twinspanlaw11.BankSplit", spec := "bankSplit", inPlace := ["internal/bytealg.abigen_runtime_cmpstring", "math/bits.Add64", "slices.overlaps[twinspan/api.Entry]", "math/bits.Sub64"], unfollowed := true, recurses := true, apart := false }
def BankSplitSaid : Prop := bankSplitRow.holds Try.pinned (OpenSpec.ofChange bankSplitSpec)

/-- ITS FALSE NEIGHBOUR: 'it returns false'. Refute it at one input. -/
def bankSplitWrong : ChangeSpec := { name := "bankSplit", fn := fun _ => fun
  | [d1, d2, d3] => { results := [.lit (.bool false)], args := [d1, d2, d3] }
  | _ => none }
def BankSplitWrongFalsely : Prop := bankSplitRow.holds Try.pinned (OpenSpec.ofChange bankSplitWrong)

/-- 'twinspanlaw11.BankBack': WHATEVER THE INPUT: true; the input reads as it did. -/
def bankBackSpec : ChangeSpec := { name := "bankBack", fn := fun _ => fun
  | [d1, d2] => { results := [.lit (.bool true)], args := [d1, d2] }
  | _ => none }
def bankBackRow : OpenClaim := { program := "ytbimnfmjgmfijaa", sum := "c7812fd858d19ee46adfbb3ae937b1d2a28b9107c8bbd2cbd6ecc7f4ae6a4ac6", func := "twinspan/twinspanlaw11.BankBack", spec := "bankBack", inPlace := ["internal/bytealg.abigen_runtime_cmpstring", "math/bits.Add64", "slices.overlaps[twinspan/api.Entry]", "math/bits.Sub64"], unfollowed := true, recurses := true, apart := false }
def BankBackSaid : Prop := bankBackRow.holds Try.pinned (OpenSpec.ofChange bankBackSpec)

/-- ITS FALSE NEIGHBOUR: 'it returns false'. Refute it at one input. -/
def bankBackWrong : ChangeSpec := { name := "bankBack", fn := fun _ => fun
  | [d1, d2] => { results := [.lit (.bool false)], args := [d1, d2] }
  | _ => none }
def BankBackWrongFalsely : Prop := bankBackRow.holds Try.pinned (OpenSpec.ofChange bankBackWrong)

/- THE SECOND FORM. 'bulk': how many values and letters a reading holds, each counted each time it is reached (what is shared counts as often as it is met; a slice's spare places count too). A statement '..UptoSaid' is the law's where the arguments, and the package variables that the reading takes, are together of bulk at most 1048576: NARROWER than '..Said'. Prove '..Said' where nothing that the law and all that it calls make is longer than what came in: it says more and counts as full. Else prove '..UptoSaid'. A law counts once. -/
mutual
def uptoBulk {H : Type} : DataW H → Nat
  | .lit (.string bytes) => bytes.length + 1
  | .lit _ => 1
  | .nil => 1
  | .ptr d => uptoBulk d + 1
  | .slice elems spare => uptoBulkAll elems + uptoBulkAll spare + 1
  | .agg parts => uptoBulkAll parts + 1
  | .iface _ d => uptoBulk d + 1
  | .map entries => uptoBulkEntries entries + 1
  | .held _ => 1
def uptoBulkAll {H : Type} : List (DataW H) → Nat
  | [] => 0
  | d :: r => uptoBulk d + uptoBulkAll r
def uptoBulkEntries {H : Type} : List (Lit × DataW H) → Nat
  | [] => 0
  | x :: r => uptoBulkEntry x + uptoBulkEntries r
def uptoBulkEntry {H : Type} : Lit × DataW H → Nat
  | (.string bytes, d) => bytes.length + uptoBulk d + 1
  | (_, d) => uptoBulk d + 1
 end
def uptoSmall : (H : Type) → List (DataW H) → Bool := fun _ ds => decide (uptoBulkAll ds ≤ 1048576)
def OpenSpec.upto (s : _root_.Go.ChangeSpec) : _root_.Go.OpenSpec := { _root_.Go.OpenSpec.ofChange s with cond := some uptoSmall }

/-- 'twinspanlaw11.BankKeys', WHERE WHAT IT READS IS OF BULK AT MOST 1048576: true; the input reads as it did. -/
def bankKeysUptoRow : OpenClaim := { program := "ytbimnfmjgmfijaa", sum := "c7812fd858d19ee46adfbb3ae937b1d2a28b9107c8bbd2cbd6ecc7f4ae6a4ac6", func := "twinspan/twinspanlaw11.BankKeys", spec := "bankKeys", inPlace := ["internal/bytealg.abigen_runtime_cmpstring", "math/bits.Add64", "slices.overlaps[twinspan/api.Entry]", "math/bits.Sub64"], unfollowed := true, recurses := true, apart := false, narrowed := true }
def BankKeysUptoSaid : Prop := bankKeysUptoRow.holds Try.pinned (OpenSpec.upto bankKeysSpec)

/-- 'twinspanlaw11.BankTotal', WHERE WHAT IT READS IS OF BULK AT MOST 1048576: true; the input reads as it did. -/
def bankTotalUptoRow : OpenClaim := { program := "ytbimnfmjgmfijaa", sum := "c7812fd858d19ee46adfbb3ae937b1d2a28b9107c8bbd2cbd6ecc7f4ae6a4ac6", func := "twinspan/twinspanlaw11.BankTotal", spec := "bankTotal", inPlace := ["internal/bytealg.abigen_runtime_cmpstring", "math/bits.Add64", "slices.overlaps[twinspan/api.Entry]", "math/bits.Sub64"], unfollowed := true, recurses := true, apart := false, narrowed := true }
def BankTotalUptoSaid : Prop := bankTotalUptoRow.holds Try.pinned (OpenSpec.upto bankTotalSpec)

/-- 'twinspanlaw11.BankPlays', WHERE WHAT IT READS IS OF BULK AT MOST 1048576: true; the input reads as it did. -/
def bankPlaysUptoRow : OpenClaim := { program := "ytbimnfmjgmfijaa", sum := "c7812fd858d19ee46adfbb3ae937b1d2a28b9107c8bbd2cbd6ecc7f4ae6a4ac6", func := "twinspan/twinspanlaw11.BankPlays", spec := "bankPlays", inPlace := ["internal/bytealg.abigen_runtime_cmpstring", "math/bits.Add64", "slices.overlaps[twinspan/api.Entry]", "math/bits.Sub64"], unfollowed := true, recurses := true, apart := false, narrowed := true }
def BankPlaysUptoSaid : Prop := bankPlaysUptoRow.holds Try.pinned (OpenSpec.upto bankPlaysSpec)

/-- 'twinspanlaw11.BankAny', WHERE WHAT IT READS IS OF BULK AT MOST 1048576: true; the input reads as it did. -/
def bankAnyUptoRow : OpenClaim := { program := "ytbimnfmjgmfijaa", sum := "c7812fd858d19ee46adfbb3ae937b1d2a28b9107c8bbd2cbd6ecc7f4ae6a4ac6", func := "twinspan/twinspanlaw11.BankAny", spec := "bankAny", inPlace := ["internal/bytealg.abigen_runtime_cmpstring", "math/bits.Add64", "slices.overlaps[twinspan/api.Entry]", "math/bits.Sub64"], unfollowed := true, recurses := true, apart := false, narrowed := true }
def BankAnyUptoSaid : Prop := bankAnyUptoRow.holds Try.pinned (OpenSpec.upto bankAnySpec)

/-- 'twinspanlaw11.BankSplit', WHERE WHAT IT READS IS OF BULK AT MOST 1048576: true; the input reads as it did. -/
def bankSplitUptoRow : OpenClaim := { program := "ytbimnfmjgmfijaa", sum := "c7812fd858d19ee46adfbb3ae937b1d2a28b9107c8bbd2cbd6ecc7f4ae6a4ac6", func := "twinspan/twinspanlaw11.BankSplit", spec := "bankSplit", inPlace := ["internal/bytealg.abigen_runtime_cmpstring", "math/bits.Add64", "slices.overlaps[twinspan/api.Entry]", "math/bits.Sub64"], unfollowed := true, recurses := true, apart := false, narrowed := true }
def BankSplitUptoSaid : Prop := bankSplitUptoRow.holds Try.pinned (OpenSpec.upto bankSplitSpec)

/-- 'twinspanlaw11.BankBack', WHERE WHAT IT READS IS OF BULK AT MOST 1048576: true; the input reads as it did. -/
def bankBackUptoRow : OpenClaim := { program := "ytbimnfmjgmfijaa", sum := "c7812fd858d19ee46adfbb3ae937b1d2a28b9107c8bbd2cbd6ecc7f4ae6a4ac6", func := "twinspan/twinspanlaw11.BankBack", spec := "bankBack", inPlace := ["internal/bytealg.abigen_runtime_cmpstring", "math/bits.Add64", "slices.overlaps[twinspan/api.Entry]", "math/bits.Sub64"], unfollowed := true, recurses := true, apart := false, narrowed := true }
def BankBackUptoSaid : Prop := bankBackUptoRow.holds Try.pinned (OpenSpec.upto bankBackSpec)

end Rows
end Go.Proofs.Ytbimnfmjgmfijaa

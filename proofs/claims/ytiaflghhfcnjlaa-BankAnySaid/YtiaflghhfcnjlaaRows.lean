/-
  No cell of these rows narrows 'for every input' (looked for: loops, veiled, ifaces, maps, wideKeys, modest, calm, conditions, laid).
  DERIVED. THE GIVEN ROWS OF THIS SEAT. 3 by the template 'for every input the law returns true; each argument reads behind the call as it read before'; 0 by the template 'total and deterministic' (their statements: YtiaflghhfcnjlaaTotals.lean).
  GIVEN WITH THE SEED: the statements are not yours to turn. If you find one false, say at which input.
  Laid BY PROGRAM, IN A SANDBOX (cutbox-rows.mjs): the forced cells as the released guide's own fill.sh prints them over the translation 613376425b3e8db1… (all of the seat's roots in one cut). By AI agents, Wed Nov 11 2026. No macro, syntax, notation, axiom, sorry.
-/
import Derived.Test.YtiaflghhfcnjlaaChecked
import GoSem.Claim
import GoSem.ClaimJoined
import GoSem.ClaimMapViews
import Derived.JoinedTies
import Derived.KernelRfl
namespace Go.Proofs.Ytiaflghhfcnjlaa
/- THE CELL 'sum', in the pinned program and in every row, IS THE sha256 OF THE DUMP (.gsa) THAT YtiaflghhfcnjlaaProg.lean LOADS. Nothing in Lean hashes anything: it is a label: what it is worth is what the hold of that sum in a sandbox is worth. -/
noncomputable def Try.pinned : Pinned := { name := "ytiaflghhfcnjlaa", sum := "613376425b3e8db1c8cb8159f541133612cc7c553ac25db77fee366e6503a637", checked := Try.checked }
namespace Rows
def none {H : Type} : Left H := { results := [], args := [] }

/-- 'twinspanlaw11.BankTotal': WHATEVER THE INPUT: true; the input reads as it did. -/
def bankTotalSpec : ChangeSpec := { name := "bankTotal", fn := fun _ => fun
  | [d] => { results := [.lit (.bool true)], args := [d] }
  | _ => none }
def bankTotalRow : OpenClaim := { program := "ytiaflghhfcnjlaa", sum := "613376425b3e8db1c8cb8159f541133612cc7c553ac25db77fee366e6503a637", func := "twinspan/twinspanlaw11.BankTotal", spec := "bankTotal", inPlace := ["internal/bytealg.abigen_runtime_cmpstring", "math/bits.Add64", "slices.overlaps[twinspan/api.Entry]", "math/bits.Sub64"], unfollowed := true, recurses := true, apart := false }
def BankTotalSaid : Prop := bankTotalRow.holds Try.pinned (OpenSpec.ofChange bankTotalSpec)

/-- ITS FALSE NEIGHBOUR: 'it returns false'. Refute it at one input. -/
def bankTotalWrong : ChangeSpec := { name := "bankTotal", fn := fun _ => fun
  | [d] => { results := [.lit (.bool false)], args := [d] }
  | _ => none }
def BankTotalWrongFalsely : Prop := bankTotalRow.holds Try.pinned (OpenSpec.ofChange bankTotalWrong)

/-- 'twinspanlaw11.BankAny': WHATEVER THE INPUT: true; the input reads as it did. -/
def bankAnySpec : ChangeSpec := { name := "bankAny", fn := fun _ => fun
  | [d1, d2, d3] => { results := [.lit (.bool true)], args := [d1, d2, d3] }
  | _ => none }
def bankAnyRow : OpenClaim := { program := "ytiaflghhfcnjlaa", sum := "613376425b3e8db1c8cb8159f541133612cc7c553ac25db77fee366e6503a637", func := "twinspan/twinspanlaw11.BankAny", spec := "bankAny", inPlace := ["internal/bytealg.abigen_runtime_cmpstring", "math/bits.Add64", "slices.overlaps[twinspan/api.Entry]", "math/bits.Sub64"], unfollowed := true, recurses := true, apart := false }
def BankAnySaid : Prop := bankAnyRow.holds Try.pinned (OpenSpec.ofChange bankAnySpec)

/-- ITS FALSE NEIGHBOUR: 'it returns false'. Refute it at one input. -/
def bankAnyWrong : ChangeSpec := { name := "bankAny", fn := fun _ => fun
  | [d1, d2, d3] => { results := [.lit (.bool false)], args := [d1, d2, d3] }
  | _ => none }
def BankAnyWrongFalsely : Prop := bankAnyRow.holds Try.pinned (OpenSpec.ofChange bankAnyWrong)

/-- 'twinspanlaw11.BankBack': WHATEVER THE INPUT: true; the input reads as it did. -/
def bankBackSpec : ChangeSpec := { name := "bankBack", fn := fun _ => fun
  | [d1, d2] => { results := [.lit (.bool true)], args := [d1, d2] }
  | _ => none }
def bankBackRow : OpenClaim := { program := "ytiaflghhfcnjlaa", sum := "613376425b3e8db1c8cb8159f541133612cc7c553ac25db77fee366e6503a637", func := "twinspan/twinspanlaw11.BankBack", spec := "bankBack", inPlace := ["internal/bytealg.abigen_runtime_cmpstring", "math/bits.Add64", "slices.overlaps[twinspan/api.Entry]", "math/bits.Sub64"], unfollowed := true, recurses := true, apart := false }
def BankBackSaid : Prop := bankBackRow.holds Try.pinned (OpenSpec.ofChange bankBackSpec)

/-- ITS FALSE NEIGHBOUR: 'it returns false'. Refute it at one input. -/
def bankBackWrong : ChangeSpec := { name := "bankBack", fn := fun _ => fun
  | [d1, d2] => { results := [.lit (.bool false)], args := [d1, d2] }
  | _ => none }
def BankBackWrongFalsely : Prop := bankBackRow.holds Try.pinned (OpenSpec.ofChange bankBackWrong)

/- THE SECOND FORM. 'bulk': how many values and letters a reading holds, each counted each time it is reached (what is shared counts as often as it is met; a slice's spare places count too). A statement '..UptoSaid' is the law's where the arguments, and the package variables that the reading takes, are together of bulk at most 1048576: NARROWER than '..Said'. Prove '..Said' where nothing that the law and all that it calls make is longer than what came in: it says more and counts as full. Else prove '..UptoSaid'. A law counts once. -/
mutual
def uptoBulk {H : Type} : DataW H → Nat
  | .lit (.string bytes) => bytes.length + 1
  | .lit _ => 1
  | .nil => 1
  | .ptr d => uptoBulk d + 1
  | .slice elems spare => uptoBulkAll elems + uptoBulkAll spare + 1
  | .agg parts => uptoBulkAll parts + 1
  | .iface _ d => uptoBulk d + 1
  | .map entries => uptoBulkEntries entries + 1
  | .held _ => 1
def uptoBulkAll {H : Type} : List (DataW H) → Nat
  | [] => 0
  | d :: r => uptoBulk d + uptoBulkAll r
def uptoBulkEntries {H : Type} : List (Lit × DataW H) → Nat
  | [] => 0
  | x :: r => uptoBulkEntry x + uptoBulkEntries r
def uptoBulkEntry {H : Type} : Lit × DataW H → Nat
  | (.string bytes, d) => bytes.length + uptoBulk d + 1
  | (_, d) => uptoBulk d + 1
 end
def uptoSmall : (H : Type) → List (DataW H) → Bool := fun _ ds => decide (uptoBulkAll ds ≤ 1048576)
def OpenSpec.upto (s : _root_.Go.ChangeSpec) : _root_.Go.OpenSpec := { _root_.Go.OpenSpec.ofChange s with cond := some uptoSmall }

/-- 'twinspanlaw11.BankTotal', WHERE WHAT IT READS IS OF BULK AT MOST 1048576: true; the input reads as it did. -/
def bankTotalUptoRow : OpenClaim := { program := "ytiaflghhfcnjlaa", sum := "613376425b3e8db1c8cb8159f541133612cc7c553ac25db77fee366e6503a637", func := "twinspan/twinspanlaw11.BankTotal", spec := "bankTotal", inPlace := ["internal/bytealg.abigen_runtime_cmpstring", "math/bits.Add64", "slices.overlaps[twinspan/api.Entry]", "math/bits.Sub64"], unfollowed := true, recurses := true, apart := false, narrowed := true }
def BankTotalUptoSaid : Prop := bankTotalUptoRow.holds Try.pinned (OpenSpec.upto bankTotalSpec)

/-- 'twinspanlaw11.BankAny', WHERE WHAT IT READS IS OF BULK AT MOST 1048576: true; the input reads as it did. -/
def bankAnyUptoRow : OpenClaim := { program := "ytiaflghhfcnjlaa", sum := "613376425b3e8db1c8cb8159f541133612cc7c553ac25db77fee366e6503a637", func := "twinspan/twinspanlaw11.BankAny", spec := "bankAny", inPlace := ["internal/bytealg.abigen_runtime_cmpstring", "math/bits.Add64", "slices.overlaps[twinspan/api.Entry]", "math/bits.Sub64"], unfollowed := true, recurses := true, apart := false, narrowed := true }
def BankAnyUptoSaid : Prop := bankAnyUptoRow.holds Try.pinned (OpenSpec.upto bankAnySpec)

/-- 'twinspanlaw11.BankBack', WHERE WHAT IT READS IS OF BULK AT MOST 1048576: true; the input reads as it did. -/
def bankBackUptoRow : OpenClaim := { program := "ytiaflghhfcnjlaa", sum := "613376425b3e8db1c8cb8159f541133612cc7c553ac25db77fee366e6503a637", func := "twinspan/twinspanlaw11.BankBack", spec := "bankBack", inPlace := ["internal/bytealg.abigen_runtime_cmpstring", "math/bits.Add64", "slices.overlaps[twinspan/api.Entry]", "math/bits.Sub64"], unfollowed := true, recurses := true, apart := false, narrowed := true }
def BankBackUptoSaid : Prop := bankBackUptoRow.holds Try.pinned (OpenSpec.upto bankBackSpec)

end Rows
end Go.Proofs.Ytiaflghhfcnjlaa

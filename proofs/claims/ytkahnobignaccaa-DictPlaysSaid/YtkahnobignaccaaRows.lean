/-
  No cell of these rows narrows 'for every input' (looked for: loops, veiled, ifaces, maps, wideKeys, modest, calm, conditions, laid).
  DERIVED. THE GIVEN ROWS OF THIS SEAT. 6 by the template 'for every input the law returns true; each argument reads behind the call as it read before'; 0 by the template 'total and deterministic' (their statements: YtkahnobignaccaaTotals.lean).
  GIVEN WITH THE SEED: the statements are not yours to turn. If you find one false, say at which input.
  Laid BY PROGRAM, IN A SANDBOX (cutbox-rows.mjs): the forced cells as the released guide's own fill.sh prints them over the translation b6802adfa7a186b1… (all of the seat's roots in one cut). By AI agents, Wed Nov 11 2026. No macro, syntax, notation, axiom, sorry.
-/
import Derived.Test.YtkahnobignaccaaChecked
import GoSem.Claim
import GoSem.ClaimJoined
import GoSem.ClaimMapViews
import Derived.JoinedTies
import Derived.KernelRfl
namespace Go.Proofs.Ytkahnobignaccaa
/- THE CELL 'sum', in the pinned program and in every row, IS THE sha256 OF THE DUMP (.gsa) THAT YtkahnobignaccaaProg.lean LOADS. Nothing in Lean hashes anything: it is a label: what it is worth is what the hold of that sum in a sandbox is worth. -/
noncomputable def Try.pinned : Pinned := { name := "ytkahnobignaccaa", sum := "b6802adfa7a186b1447d0304ac316e042dcbfa6cb7b65a6908417598a5a79641", checked := Try.checked }
namespace Rows
def none {H : Type} : Left H := { results := [], args := [] }

/-- 'twinspanlaw08.DictFull': WHATEVER THE INPUT: true; the input reads as it did. -/
def dictFullSpec : ChangeSpec := { name := "dictFull", fn := fun _ => fun
  | [d] => { results := [.lit (.bool true)], args := [d] }
  | _ => none }
def dictFullRow : OpenClaim := { program := "ytkahnobignaccaa", sum := "b6802adfa7a186b1447d0304ac316e042dcbfa6cb7b65a6908417598a5a79641", func := "twinspan/twinspanlaw08.DictFull", spec := "dictFull", inPlace := ["internal/bytealg.abigen_runtime_cmpstring", "slices.overlaps[twinspan/api.Entry]"], unfollowed := true, recurses := true, apart := false }
def DictFullSaid : Prop := dictFullRow.holds Try.pinned (OpenSpec.ofChange dictFullSpec)

/-- ITS FALSE NEIGHBOUR: 'it returns false'. Refute it at one input. -/
def dictFullWrong : ChangeSpec := { name := "dictFull", fn := fun _ => fun
  | [d] => { results := [.lit (.bool false)], args := [d] }
  | _ => none }
def DictFullWrongFalsely : Prop := dictFullRow.holds Try.pinned (OpenSpec.ofChange dictFullWrong)

/-- 'twinspanlaw08.DictOrder': WHATEVER THE INPUT: true; the input reads as it did. -/
def dictOrderSpec : ChangeSpec := { name := "dictOrder", fn := fun _ => fun
  | [d1, d2] => { results := [.lit (.bool true)], args := [d1, d2] }
  | _ => none }
def dictOrderRow : OpenClaim := { program := "ytkahnobignaccaa", sum := "b6802adfa7a186b1447d0304ac316e042dcbfa6cb7b65a6908417598a5a79641", func := "twinspan/twinspanlaw08.DictOrder", spec := "dictOrder", inPlace := ["internal/bytealg.abigen_runtime_cmpstring", "slices.overlaps[twinspan/api.Entry]"], unfollowed := true, recurses := true, apart := false }
def DictOrderSaid : Prop := dictOrderRow.holds Try.pinned (OpenSpec.ofChange dictOrderSpec)

/-- ITS FALSE NEIGHBOUR: 'it returns false'. Refute it at one input. -/
def dictOrderWrong : ChangeSpec := { name := "dictOrder", fn := fun _ => fun
  | [d1, d2] => { results := [.lit (.bool false)], args := [d1, d2] }
  | _ => none }
def DictOrderWrongFalsely : Prop := dictOrderRow.holds Try.pinned (OpenSpec.ofChange dictOrderWrong)

/-- 'twinspanlaw08.DictPlays': WHATEVER THE INPUT: true; the input reads as it did. -/
def dictPlaysSpec : ChangeSpec := { name := "dictPlays", fn := fun _ => fun
  | [d] => { results := [.lit (.bool true)], args := [d] }
  | _ => none }
def dictPlaysRow : OpenClaim := { program := "ytkahnobignaccaa", sum := "b6802adfa7a186b1447d0304ac316e042dcbfa6cb7b65a6908417598a5a79641", func := "twinspan/twinspanlaw08.DictPlays", spec := "dictPlays", inPlace := ["internal/bytealg.abigen_runtime_cmpstring", "slices.overlaps[twinspan/api.Entry]"], unfollowed := true, recurses := true, apart := false }
def DictPlaysSaid : Prop := dictPlaysRow.holds Try.pinned (OpenSpec.ofChange dictPlaysSpec)

/-- ITS FALSE NEIGHBOUR: 'it returns false'. Refute it at one input. -/
def dictPlaysWrong : ChangeSpec := { name := "dictPlays", fn := fun _ => fun
  | [d] => { results := [.lit (.bool false)], args := [d] }
  | _ => none }
def DictPlaysWrongFalsely : Prop := dictPlaysRow.holds Try.pinned (OpenSpec.ofChange dictPlaysWrong)

/-- 'twinspanlaw08.DictParts': WHATEVER THE INPUT: true; the input reads as it did. -/
def dictPartsSpec : ChangeSpec := { name := "dictParts", fn := fun _ => fun
  | [d1, d2] => { results := [.lit (.bool true)], args := [d1, d2] }
  | _ => none }
def dictPartsRow : OpenClaim := { program := "ytkahnobignaccaa", sum := "b6802adfa7a186b1447d0304ac316e042dcbfa6cb7b65a6908417598a5a79641", func := "twinspan/twinspanlaw08.DictParts", spec := "dictParts", inPlace := ["internal/bytealg.abigen_runtime_cmpstring", "slices.overlaps[twinspan/api.Entry]"], unfollowed := true, recurses := true, apart := false }
def DictPartsSaid : Prop := dictPartsRow.holds Try.pinned (OpenSpec.ofChange dictPartsSpec)

/-- ITS FALSE NEIGHBOUR: 'it returns false'. Refute it at one input. -/
def dictPartsWrong : ChangeSpec := { name := "dictParts", fn := fun _ => fun
  | [d1, d2] => { results := [.lit (.bool false)], args := [d1, d2] }
  | _ => none }
def DictPartsWrongFalsely : Prop := dictPartsRow.holds Try.pinned (OpenSpec.ofChange dictPartsWrong)

/-- 'twinspanlaw08.DictAsks': WHATEVER THE INPUT: true; the input reads as it did. -/
def dictAsksSpec : ChangeSpec := { name := "dictAsks", fn := fun _ => fun
  | [d1, d2, d3] => { results := [.lit (.bool true)], args := [d1, d2, d3] }
  | _ => none }
def dictAsksRow : OpenClaim := { program := "ytkahnobignaccaa", sum := "b6802adfa7a186b1447d0304ac316e042dcbfa6cb7b65a6908417598a5a79641", func := "twinspan/twinspanlaw08.DictAsks", spec := "dictAsks", inPlace := ["internal/bytealg.abigen_runtime_cmpstring", "slices.overlaps[twinspan/api.Entry]"], unfollowed := true, recurses := true, apart := false }
def DictAsksSaid : Prop := dictAsksRow.holds Try.pinned (OpenSpec.ofChange dictAsksSpec)

/-- ITS FALSE NEIGHBOUR: 'it returns false'. Refute it at one input. -/
def dictAsksWrong : ChangeSpec := { name := "dictAsks", fn := fun _ => fun
  | [d1, d2, d3] => { results := [.lit (.bool false)], args := [d1, d2, d3] }
  | _ => none }
def DictAsksWrongFalsely : Prop := dictAsksRow.holds Try.pinned (OpenSpec.ofChange dictAsksWrong)

/-- 'twinspanlaw08.DictLast': WHATEVER THE INPUT: true; the input reads as it did. -/
def dictLastSpec : ChangeSpec := { name := "dictLast", fn := fun _ => fun
  | [d1, d2, d3] => { results := [.lit (.bool true)], args := [d1, d2, d3] }
  | _ => none }
def dictLastRow : OpenClaim := { program := "ytkahnobignaccaa", sum := "b6802adfa7a186b1447d0304ac316e042dcbfa6cb7b65a6908417598a5a79641", func := "twinspan/twinspanlaw08.DictLast", spec := "dictLast", inPlace := ["internal/bytealg.abigen_runtime_cmpstring", "slices.overlaps[twinspan/api.Entry]"], unfollowed := true, recurses := true, apart := false }
def DictLastSaid : Prop := dictLastRow.holds Try.pinned (OpenSpec.ofChange dictLastSpec)

/-- ITS FALSE NEIGHBOUR: 'it returns false'. Refute it at one input. -/
def dictLastWrong : ChangeSpec := { name := "dictLast", fn := fun _ => fun
  | [d1, d2, d3] => { results := [.lit (.bool false)], args := [d1, d2, d3] }
  | _ => none }
def DictLastWrongFalsely : Prop := dictLastRow.holds Try.pinned (OpenSpec.ofChange dictLastWrong)

/- THE SECOND FORM. 'bulk': how many values and letters a reading holds, each counted each time it is reached (what is shared counts as often as it is met; a slice's spare places count too). A statement '..UptoSaid' is the law's where the arguments, and the package variables that the reading takes, are together of bulk at most 1048576: NARROWER than '..Said'. Prove '..Said' where nothing that the law and all that it calls make is longer than what came in: it says more and counts as full. Else prove '..UptoSaid'. A law counts once. -/
mutual
def uptoBulk {H : Type} : DataW H → Nat
  | .lit (.string bytes) => bytes.length + 1
  | .lit _ => 1
  | .nil => 1
  | .ptr d => uptoBulk d + 1
  | .slice elems spare => uptoBulkAll elems + uptoBulkAll spare + 1
  | .agg parts => uptoBulkAll parts + 1
  | .iface _ d => uptoBulk d + 1
  | .map entries => uptoBulkEntries entries + 1
  | .held _ => 1
def uptoBulkAll {H : Type} : List (DataW H) → Nat
  | [] => 0
  | d :: r => uptoBulk d + uptoBulkAll r
def uptoBulkEntries {H : Type} : List (Lit × DataW H) → Nat
  | [] => 0
  | x :: r => uptoBulkEntry x + uptoBulkEntries r
def uptoBulkEntry {H : Type} : Lit × DataW H → Nat
  | (.string bytes, d) => bytes.length + uptoBulk d + 1
  | (_, d) => uptoBulk d + 1
 end
def uptoSmall : (H : Type) → List (DataW H) → Bool := fun _ ds => decide (uptoBulkAll ds ≤ 1048576)
def OpenSpec.upto (s : _root_.Go.ChangeSpec) : _root_.Go.OpenSpec := { _root_.Go.OpenSpec.ofChange s with cond := some uptoSmall }

/-- 'twinspanlaw08.DictFull', WHERE WHAT IT READS IS OF BULK AT MOST 1048576: true; the input reads as it did. -/
def dictFullUptoRow : OpenClaim := { program := "ytkahnobignaccaa", sum := "b6802adfa7a186b1447d0304ac316e042dcbfa6cb7b65a6908417598a5a79641", func := "twinspan/twinspanlaw08.DictFull", spec := "dictFull", inPlace := ["internal/bytealg.abigen_runtime_cmpstring", "slices.overlaps[twinspan/api.Entry]"], unfollowed := true, recurses := true, apart := false, narrowed := true }
def DictFullUptoSaid : Prop := dictFullUptoRow.holds Try.pinned (OpenSpec.upto dictFullSpec)

/-- 'twinspanlaw08.DictOrder', WHERE WHAT IT READS IS OF BULK AT MOST 1048576: true; the input reads as it did. -/
def dictOrderUptoRow : OpenClaim := { program := "ytkahnobignaccaa", sum := "b6802adfa7a186b1447d0304ac316e042dcbfa6cb7b65a6908417598a5a79641", func := "twinspan/twinspanlaw08.DictOrder", spec := "dictOrder", inPlace := ["internal/bytealg.abigen_runtime_cmpstring", "slices.overlaps[twinspan/api.Entry]"], unfollowed := true, recurses := true, apart := false, narrowed := true }
def DictOrderUptoSaid : Prop := dictOrderUptoRow.holds Try.pinned (OpenSpec.upto dictOrderSpec)

/-- 'twinspanlaw08.DictPlays', WHERE WHAT IT READS IS OF BULK AT MOST 1048576: true; the input reads as it did. -/
def dictPlaysUptoRow : OpenClaim := { program := "ytkahnobignaccaa", sum := "b6802adfa7a186b1447d0304ac316e042dcbfa6cb7b65a6908417598a5a79641", func := "twinspan/twinspanlaw08.DictPlays", spec := "dictPlays", inPlace := ["internal/bytealg.abigen_runtime_cmpstring", "slices.overlaps[twinspan/api.Entry]"], unfollowed := true, recurses := true, apart := false, narrowed := true }
def DictPlaysUptoSaid : Prop := dictPlaysUptoRow.holds Try.pinned (OpenSpec.upto dictPlaysSpec)

/-- 'twinspanlaw08.DictParts', WHERE WHAT IT READS IS OF BULK AT MOST 1048576: true; the input reads as it did. -/
def dictPartsUptoRow : OpenClaim := { program := "ytkahnobignaccaa", sum := "b6802adfa7a186b1447d0304ac316e042dcbfa6cb7b65a6908417598a5a79641", func := "twinspan/twinspanlaw08.DictParts", spec := "dictParts", inPlace := ["internal/bytealg.abigen_runtime_cmpstring", "slices.overlaps[twinspan/api.Entry]"], unfollowed := true, recurses := true, apart := false, narrowed := true }
def DictPartsUptoSaid : Prop := dictPartsUptoRow.holds Try.pinned (OpenSpec.upto dictPartsSpec)

/-- 'twinspanlaw08.DictAsks', WHERE WHAT IT READS IS OF BULK AT MOST 1048576: true; the input reads as it did. -/
def dictAsksUptoRow : OpenClaim := { program := "ytkahnobignaccaa", sum := "b6802adfa7a186b1447d0304ac316e042dcbfa6cb7b65a6908417598a5a79641", func := "twinspan/twinspanlaw08.DictAsks", spec := "dictAsks", inPlace := ["internal/bytealg.abigen_runtime_cmpstring", "slices.overlaps[twinspan/api.Entry]"], unfollowed := true, recurses := true, apart := false, narrowed := true }
def DictAsksUptoSaid : Prop := dictAsksUptoRow.holds Try.pinned (OpenSpec.upto dictAsksSpec)

/-- 'twinspanlaw08.DictLast', WHERE WHAT IT READS IS OF BULK AT MOST 1048576: true; the input reads as it did. -/
def dictLastUptoRow : OpenClaim := { program := "ytkahnobignaccaa", sum := "b6802adfa7a186b1447d0304ac316e042dcbfa6cb7b65a6908417598a5a79641", func := "twinspan/twinspanlaw08.DictLast", spec := "dictLast", inPlace := ["internal/bytealg.abigen_runtime_cmpstring", "slices.overlaps[twinspan/api.Entry]"], unfollowed := true, recurses := true, apart := false, narrowed := true }
def DictLastUptoSaid : Prop := dictLastUptoRow.holds Try.pinned (OpenSpec.upto dictLastSpec)

end Rows
end Go.Proofs.Ytkahnobignaccaa

/- Worlds of the seal's laws. -/
import Derived.Test.YtidceockbjeaoaaDoorS6
namespace Go.Proofs.YtidceockbjeaoaaDoor
open Go.RowKit
/-- Boxes that hold hashes, a sealer, a row of texts; the tables; nothing older has turned. -/
def SX (w0 : World) (bs : List (Nat × List Nat)) (p : Option Addr) (B : List Nat) (v : Value) (L : List ByteArray) (w : World) : Prop := HB w0 bs w ∧ SlrAt p B w ∧ Strs w v L
theorem SX.on {w0 w w' : World} {bs : List (Nat × List Nat)} {p : Option Addr} {B : List Nat} {v : Value} {L : List ByteArray} (h : SX w0 bs p B v L w) (hb : Below w.heap.size w w') : SX w0 bs p B v L w' := ⟨h.1.on hb, h.2.1.on hb, h.2.2.on hb⟩
theorem SX.drew {w0 w : World} {bs : List (Nat × List Nat)} {p : Option Addr} {B : List Nat} {v : Value} {L : List ByteArray} (h : SX w0 bs p B v L w) : SX w0 bs p B v L w.drew := h.on (Below.refl _ _).drew
theorem SX.tabs {w0 w : World} {bs : List (Nat × List Nat)} {p : Option Addr} {B : List Nat} {v : Value} {L : List ByteArray} (h : SX w0 bs p B v L w) : Hid (Tabs w) := Lib.hid h.1.2.1
theorem SX.below {w0 w : World} {bs : List (Nat × List Nat)} {p : Option Addr} {B : List Nat} {v : Value} {L : List ByteArray} (h : SX w0 bs p B v L w) : Below w0.heap.size w0 w := h.1.2.2
theorem SX.at {w0 w : World} {bs : List (Nat × List Nat)} {q : Option Addr} {B : List Nat} {v : Value} {L : List ByteArray} (h : SX w0 bs q B v L w) {p : Nat × List Nat} (hp : p ∈ bs) : w.rangeAt p.1 0 (U8s p.2) := (HB.at h.1 hp).2
theorem SX.slr {w0 w : World} {bs : List (Nat × List Nat)} {p : Option Addr} {B : List Nat} {v : Value} {L : List ByteArray} (h : SX w0 bs p B v L w) : Hid (SlrAt p B w) := Lib.hid h.2.1
theorem SX.strs {w0 w : World} {bs : List (Nat × List Nat)} {p : Option Addr} {B : List Nat} {v : Value} {L : List ByteArray} (h : SX w0 bs p B v L w) : Hid (Strs w v L) := Lib.hid h.2.2
theorem SX.nil {w0 : World} (ht : Tabs w0) : SX w0 [] none z64 (.slice none 0 0) [] w0 := ⟨HB.nil ht, .inl ⟨rfl, rfl⟩, ⟨none, 0, rfl, fun h => by simp at h⟩⟩
theorem SX.box {w0 w : World} {bs : List (Nat × List Nat)} {p : Option Addr} {B : List Nat} {v : Value} {L : List ByteArray} (h : SX w0 bs p B v L w) {X : List Nat} (hX : IsH X) : SX w0 ((w.heap.size, X) :: bs) p B v L (w.alloc (.cells (U8s X).toArray 26)) :=
  ⟨h.1.box hX, h.2.1.on (BW_alloc (BW_refl _) _), h.2.2.on (BW_alloc (BW_refl _) _)⟩
theorem SX.put {w0 w : World} {bs : List (Nat × List Nat)} {p : Option Addr} {B : List Nat} {v : Value} {L : List ByteArray} (h : SX w0 bs p B v L w) {X : List Nat} (hX : IsH X) : SX w0 ((w.heap.size, X) :: bs) p B v L ((w.alloc (.cells (U8s z32).toArray 26)).setCells w.heap.size 0 (U8s X)) := by
  have hb : Below w.heap.size w ((w.alloc (.cells (U8s z32).toArray 26)).setCells w.heap.size 0 (U8s X)) := below_setCells _ _ _ (BW_alloc (BW_refl _) _) (Nat.le_refl _)
  exact ⟨h.1.put hX, h.2.1.on hb, h.2.2.on hb⟩
theorem SX.with {w0 w : World} {bs : List (Nat × List Nat)} {p q : Option Addr} {B C : List Nat} {v : Value} {L : List ByteArray} (h : SX w0 bs p B v L w) (hq : SlrAt q C w) : SX w0 bs q C v L w := ⟨h.1, hq, h.2.2⟩
theorem SX.row {w0 w : World} {bs : List (Nat × List Nat)} {p : Option Addr} {B : List Nat} {v v' : Value} {L L' : List ByteArray} (h : SX w0 bs p B v L w) (hq : Strs w v' L') : SX w0 bs p B v' L' w := ⟨h.1, h.2.1, hq⟩
theorem bool_eq (x y : Operand) (a b : Bool) (h : a = b) (w : World) : (do eqGuard .eql 4 x y (.bool a) (.bool b); binOp .eql 4 (.bool a) (.bool b) : Sem Value).run Tryd.prog w = .ok (.bool true) w := by
  subst h
  go_simp
theorem one_str (s : ByteArray) : allB [s] = bysN s := List.append_nil _
end Go.Proofs.YtidceockbjeaoaaDoor

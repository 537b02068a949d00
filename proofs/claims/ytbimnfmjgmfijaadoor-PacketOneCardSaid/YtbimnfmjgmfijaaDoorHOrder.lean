/- The law HashOrder: of two hashes one is less, or they are the same; of three the order goes on: for every input (the walk). -/
import Derived.Test.YtbimnfmjgmfijaaDoorH9
import Derived.Test.YtbimnfmjgmfijaaDoorDe
namespace Go.Proofs.YtbimnfmjgmfijaaDoor
open Go.RowKit
attribute [local go_sem ↓] Go.wp_at_zero Go.wp_at_succ
def RH (w : World) (b : Nat) (L : List Nat) : Prop := IsH L ∧ w.rangeAt b 0 (U8s L)
theorem RH.on {w w' : World} {b : Nat} {L : List Nat} (h : RH w b L) (hb : Below w.heap.size w w') : RH w' b L := ⟨h.1, range_on h.2 hb⟩
theorem RH.mk' {w : World} {b : Nat} {t : TypeId} {L : List Nat} (h : IsH L) (hb : Blk w b t (U8s L).toArray) : RH w b L := ⟨h, fun j v hj => by rw [Nat.zero_add, hb.cell]; simpa using hj⟩
theorem load_hash {ops : Array Oper} {rest : List Oper} {op : Oper} {a : Act} {w : World} {Q : Exit → Act → World → Prop} (hw : Region.wanted op (yielded ops a.tmps) = true) (x : Operand) (ho : op.op = .load 66 x)
    (b : Nat) (hx : a.eval x = .pointer (some ⟨b, 0, none⟩)) (L : List Nat) (hc : RH w b L) (h : wpList Tryd.prog ops Q rest (a.put op.dst (.agg (U8s L).toArray)) w) : wpList Tryd.prog ops Q (op :: rest) a w :=
  wpList_load_g hw 66 x ho b 0 hx (U8s L) _ hc.2 Tryd.underlying66 rfl (by rw [show (U8s L).length = L.length by simp [U8s], hc.1.1]; exact b32_size) h
end Go.Proofs.YtbimnfmjgmfijaaDoor

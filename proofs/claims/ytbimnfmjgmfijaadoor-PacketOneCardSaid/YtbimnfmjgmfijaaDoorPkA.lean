/- The document's answers for layer 13; the walk of the law PacketAnswers. -/
import Derived.Test.YtbimnfmjgmfijaaDoorT6
import Derived.Test.YtbimnfmjgmfijaaDoorPkR
namespace Go.Proofs.YtbimnfmjgmfijaaDoor
open Go.RowKit
attribute [local go_sem ↓] Go.wp_at_zero Go.wp_at_succ
theorem conv_fresh1 (w : World) (x : Int) (cap : Nat) :
    (convert 37 9 (.slice (some ⟨w.heap.size, 0, none⟩) 1 cap)).run Tryd.prog (w.alloc (.cells #[.int .u8 x] 5)) = .ok (.string ⟨#[UInt8.ofNat x.toNat]⟩) (w.alloc (.cells #[.int .u8 x] 5)) := by
  rw [run_convert_bytes_arg (w.alloc (.cells #[.int .u8 x] 5)) 37 5 Tryd.underlying37 Tryd.underlying5 w.heap.size 0 1 cap [x] rfl (by
    intro i hi
    have : i = 0 := by omega
    subst this; simp [go_sem]) 9 Tryd.underlying9]
  rfl
attribute [local go_sem] conv_fresh1
theorem toL2 (u : UInt8) : (⟨#[45, u]⟩ : ByteArray).toList = [45, u] := by simp
theorem cat2 (c : UInt8) (s : ByteArray) (hs : s.size ≤ 1000000) : ∃ t : ByteArray, bysN t = c.toNat :: bysN s ∧ ∀ w, (Op.stringOp .add ⟨#[c]⟩ s).run Tryd.prog w = .ok (.string t) w :=
  ⟨⟨#[c]⟩ ++ s, bysN_append _ _, fun w => run_string_add_sum w ⟨#[c]⟩ s (by show 1 + s.size ≤ _; omega)⟩
theorem cat1 (u : UInt8) (w : World) : (Op.stringOp .add ⟨#[45]⟩ ⟨#[u]⟩).run Tryd.prog w = .ok (.string ⟨#[45, u]⟩) w := by
  have h := run_string_add_sum (P := Tryd.prog) w ⟨#[45]⟩ ⟨#[u]⟩ (by show 1 + 1 ≤ _; decide)
  rw [h]
  congr 2
theorem app2 (u : UInt8) : (⟨#[45]⟩ : ByteArray) ++ ⟨#[u]⟩ = ⟨#[45, u]⟩ := rfl
theorem and255p (x : Int) : ∃ u : UInt8, bits .and .i64 x 255 = ((u.toNat : Nat) : Int) := by
  have h : (BitVec.ofInt 64 x &&& BitVec.ofInt 64 255).toNat ≤ 255 := by
    rw [BitVec.toNat_and]
    exact Nat.le_trans Nat.and_le_right (by decide)
  have e : bits .and .i64 x 255 = IntKind.i64.wrap (((BitVec.ofInt 64 x &&& BitVec.ofInt 64 255).toNat : Nat) : Int) := rfl
  rw [IntKind.wrap_i64] at e
  refine ⟨UInt8.ofNat (BitVec.ofInt 64 x &&& BitVec.ofInt 64 255).toNat, ?_⟩
  rw [e, UInt8.toNat_ofNat']
  omega
end Go.Proofs.YtbimnfmjgmfijaaDoor

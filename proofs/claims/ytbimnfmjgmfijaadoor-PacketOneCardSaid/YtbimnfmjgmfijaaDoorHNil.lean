/- The law HashNil: no hasher has nothing; a zero one is new: for every input (the walk). -/
import Derived.Test.YtbimnfmjgmfijaaDoorHOrder
namespace Go.Proofs.YtbimnfmjgmfijaaDoor
open Go.RowKit
attribute [local go_sem ↓] Go.wp_at_zero Go.wp_at_succ
def shN (s : ByteArray) (n : Nat) : ByteArray := if n < s.size then s.extract 0 n else s
theorem shN_size (s : ByteArray) (n : Nat) : (shN s n).size ≤ n := by
  unfold shN
  split
  · simp; omega
  · omega
theorem strs1 (w : World) (s : ByteArray) : Strs (w.alloc (.cells #[.string s] 9)) (.slice (some ⟨w.heap.size, 0, none⟩) 1 1) [s] := ⟨_, 1, rfl, fun _ => ⟨_, _, rfl, fun i hi => by
    obtain rfl : i = 0 := by simpa using hi
    rw [(blk1 w 9 #[.string s]).cell]; rfl⟩⟩
end Go.Proofs.YtbimnfmjgmfijaaDoor

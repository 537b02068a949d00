/- What BankSplit says, of no walk. -/
import Derived.Test.YtpcdgljcpacpiaaGreatDoorBf
namespace Go.Proofs.YtpcdgljcpacpiaaGreatDoor
open Go.RowKit
theorem get_setL {E : List Ent} (hs : Srt E) (k : ByteArray) (n : Nat) (o : ByteArray) : getL (setL E k n) o = if o = k then (if n = 0 then none else some (wbB n)) else getL E o := by
  by_cases h : o = k
  · rw [if_pos h, h]; exact get_set hs k n
  · rw [if_neg h]; exact get_set_ne hs k n h
theorem ng_of_get {E : List Ent} {k v : ByteArray} (h : getL E k = some v) : ng E k = numB v := by unfold ng gv; rw [h]; rfl
theorem ng_of_none {E : List Ent} {k : ByteArray} (h : getL E k = none) : ng E k = 0 := by unfold ng gv; rw [h]; rfl
end Go.Proofs.YtpcdgljcpacpiaaGreatDoor

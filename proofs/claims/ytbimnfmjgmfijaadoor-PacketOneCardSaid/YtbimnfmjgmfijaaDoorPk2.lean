/- Contracts of layer 13 (packet): any answer's result; a receipt. -/
import Derived.Test.YtbimnfmjgmfijaaDoorPk1
import Derived.Test.YtbimnfmjgmfijaaDoorHNil
namespace Go.Proofs.YtbimnfmjgmfijaaDoor
open Go.RowKit
attribute [local go_sem ↓] Go.wp_at_zero Go.wp_at_succ
theorem short13_any (s : ByteArray) (n : Nat) (w : World) : Calls Tryd.prog 8 #[.string s, .int .i64 (n : Int)] w fun e w' => e = .returned (.string (shN s n)) ∧ w = w' := by
  by_cases h : n < s.size
  · have e : shN s n = s.extract 0 n := if_pos h
    have h1 : (n : Int) < (s.size : Int) := by omega
    have h2 : (n : Int) ≤ (s.size : Int) := by omega
    rw [e]
    clear h e
    go_enter Tryd.func8, Tryd.ntmps8
    go_wp2_with fail
    go_ret
    exact ⟨by first | rfl | simp, rfl⟩
  · have e : shN s n = s := if_neg h
    have h1 : ¬ (n : Int) < (s.size : Int) := by omega
    rw [e]
    clear h e
    go_enter Tryd.func8, Tryd.ntmps8
    go_wp2_with fail
    go_ret
    exact ⟨rfl, rfl⟩
/-- A fact that no tactic looks into. -/
structure Bx' (p : Prop) : Prop where
  out : p
theorem strs2 (w : World) (s1 s2 : ByteArray) : Strs (w.alloc (.cells #[.string s1, .string s2] 9)) (.slice (some ⟨w.heap.size, 0, none⟩) 2 2) [s1, s2] := ⟨_, 2, rfl, fun _ => ⟨_, _, rfl, fun i hi => by
    have : i = 0 ∨ i = 1 := by simp at hi; omega
    rcases this with rfl | rfl <;> (rw [(blk1 w 9 #[.string s1, .string s2]).cell]; rfl)⟩⟩
end Go.Proofs.YtbimnfmjgmfijaaDoor

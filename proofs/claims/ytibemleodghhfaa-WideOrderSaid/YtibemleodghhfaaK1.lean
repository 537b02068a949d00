/- The chapter's examples of layer 4 (awake). -/
import Derived.Test.YtibemleodghhfaaP6
import Derived.Test.YtibemleodghhfaaP4
import Derived.Test.YtibemleodghhfaaP3
import Derived.Outline
namespace Go.Proofs.Ytibemleodghhfaa
open Go.RowKit
attribute [local go_sem ↓] Go.wp_at_zero Go.wp_at_succ
theorem of_one (w : World) : Calls Try.prog 18 #[.int .u64 1] w fun e w' => e = .returned (.agg #[.int .u64 (limb 1 0), .int .u64 (limb 1 1), .int .u64 (limb 1 2), .int .u64 (limb 1 3)]) ∧ Below w.heap.size w w' := of_any 1 (by decide) w
theorem of_two (w : World) : Calls Try.prog 18 #[.int .u64 2] w fun e w' => e = .returned (.agg #[.int .u64 (limb 2 0), .int .u64 (limb 2 1), .int .u64 (limb 2 2), .int .u64 (limb 2 3)]) ∧ Below w.heap.size w w' := of_any 2 (by decide) w
theorem of_big (w : World) : Calls Try.prog 18 #[.int .u64 18446744073709551615] w fun e w' => e = .returned (.agg #[.int .u64 (limb 18446744073709551615 0), .int .u64 (limb 18446744073709551615 1), .int .u64 (limb 18446744073709551615 2), .int .u64 (limb 18446744073709551615 3)]) ∧ Below w.heap.size w w' := of_any 18446744073709551615 (by decide) w
def N64 : Nat := 18446744073709551616
theorem txt64 : (⟨(txt N64).toArray⟩ : ByteArray) = ⟨#[49, 56, 52, 52, 54, 55, 52, 52, 48, 55, 51, 55, 48, 57, 53, 53, 49, 54, 49, 54]⟩ := by
  have : txt N64 = [49, 56, 52, 52, 54, 55, 52, 52, 48, 55, 51, 55, 48, 57, 53, 53, 49, 54, 49, 54] := by decide +kernel
  rw [this]
theorem add_big (w : World) : Calls Try.prog 21 #[.agg #[.int .u64 (limb 18446744073709551615 0), .int .u64 (limb 18446744073709551615 1), .int .u64 (limb 18446744073709551615 2), .int .u64 (limb 18446744073709551615 3)], .agg #[.int .u64 (limb 1 0), .int .u64 (limb 1 1), .int .u64 (limb 1 2), .int .u64 (limb 1 3)]] w fun e w' =>
      e = .returned (.tuple #[.agg #[.int .u64 (limb N64 0), .int .u64 (limb N64 1), .int .u64 (limb N64 2), .int .u64 (limb N64 3)], .bool true]) ∧ Below w.heap.size w w' := by
  have h := add_any 18446744073709551615 1 (by decide) (by decide) w
  have e1 : wN (18446744073709551615 + 1) = N64 := by decide +kernel
  have e2 : wOk (18446744073709551615 + 1) = true := by decide +kernel
  rw [e1, e2] at h
  exact h
theorem add_most (w : World) : Calls Try.prog 21 #[.agg #[.int .u64 (limb (256 ^ 32 - 1) 0), .int .u64 (limb (256 ^ 32 - 1) 1), .int .u64 (limb (256 ^ 32 - 1) 2), .int .u64 (limb (256 ^ 32 - 1) 3)], .agg #[.int .u64 (limb 1 0), .int .u64 (limb 1 1), .int .u64 (limb 1 2), .int .u64 (limb 1 3)]] w fun e w' =>
      e = .returned (.tuple #[.agg #[.int .u64 (limb 0 0), .int .u64 (limb 0 1), .int .u64 (limb 0 2), .int .u64 (limb 0 3)], .bool false]) ∧ Below w.heap.size w w' := by
  have h := add_any (256 ^ 32 - 1) 1 (by decide) (by decide) w
  have e1 : wN (256 ^ 32 - 1 + 1) = 0 := by decide +kernel
  have e2 : wOk (256 ^ 32 - 1 + 1) = false := by decide +kernel
  rw [e1, e2] at h
  exact h
theorem sub_one_two (w : World) : Calls Try.prog 23 #[.agg #[.int .u64 (limb 1 0), .int .u64 (limb 1 1), .int .u64 (limb 1 2), .int .u64 (limb 1 3)], .agg #[.int .u64 (limb 2 0), .int .u64 (limb 2 1), .int .u64 (limb 2 2), .int .u64 (limb 2 3)]] w fun e w' =>
      e = .returned (.tuple #[.agg #[.int .u64 0, .int .u64 0, .int .u64 0, .int .u64 0], .bool false]) ∧ Below w.heap.size w w' := sub_no 1 2 (by decide) (by decide) (by decide) w
set_option maxHeartbeats 1000000 in
theorem awake04 (w : World) : Calls Try.prog 14 #[] w fun e w' => e = .returned (.bool true) ∧ Below w.heap.size w w' := by
  go_enter Try.func14, Try.ntmps14
  go_wp2_with fail
  refine (of_big _).mono ?_
  rintro e w1 ⟨rfl, hb1⟩
  go_wp2_with fail
  refine (of_one _).mono ?_
  rintro e w2 ⟨rfl, hb2⟩
  go_wp2_with fail
  refine (add_big _).mono ?_
  rintro e w3 ⟨rfl, hb3⟩
  have hB3 := (hb1.trans (hb2.mono hb1.size)).trans (hb3.mono (Nat.le_trans hb1.size hb2.size))
  go_wp2_with fail
  refine (of_one _).mono ?_
  rintro e w4 ⟨rfl, hb4⟩
  go_wp2_with fail
  refine (of_two _).mono ?_
  rintro e w5 ⟨rfl, hb5⟩
  go_wp2_with fail
  refine (sub_one_two _).mono ?_
  rintro e w6 ⟨rfl, hb6⟩
  go_wp2_with fail
  refine (most_any _).mono ?_
  rintro e w7 ⟨rfl, hb7⟩
  go_wp2_with fail
  refine (of_one _).mono ?_
  rintro e w8 ⟨rfl, hb8⟩
  go_wp2_with fail
  refine (add_most _).mono ?_
  rintro e w9 ⟨rfl, hb9⟩
  have k3 := Blk.new w3 26 (wcells N64)
  have k4 := k3.below hb4 k3.lt
  have k5 := k4.below hb5 k4.lt
  have k6 := k5.below hb6 k5.lt
  have k6' := k6.alloc (.cells #[.int .u64 0, .int .u64 0, .int .u64 0, .int .u64 0] 26)
  have k7 := k6'.below hb7 k6'.lt
  have k8 := k7.below hb8 k7.lt
  have k9 := k8.below hb9 k8.lt
  have k9' := k9.alloc (.cells #[.int .u64 (limb 0 0), .int .u64 (limb 0 1), .int .u64 (limb 0 2), .int .u64 (limb 0 3)] 26)
  have hB4 := (hB3.alloc hB3.size (.cells (wcells N64) 26)).trans (hb4.mono (by have := hB3.size; simp; omega))
  have hB6 := (hB4.trans (hb5.mono hB4.size)).trans (hb6.mono (Nat.le_trans hB4.size hb5.size))
  have hB7 := (hB6.alloc hB6.size (.cells #[.int .u64 0, .int .u64 0, .int .u64 0, .int .u64 0] 26)).trans (hb7.mono (by have := hB6.size; simp; omega))
  have hB9 := (hB7.trans (hb8.mono hB7.size)).trans (hb9.mono (Nat.le_trans hB7.size hb8.size))
  have hc9 := fun i => k9'.cell i
  unfold wcells at hc9
  have hN : W256 N64 := by unfold W256 N64; decide
  have ht := text_any N64 hN
  have Ht := Lib.hid ht
  clear ht hN
  go_wp2_with fail
  refine (Ht.out _).mono ?_
  rintro e w10 ⟨rfl, hb10⟩
  have hB10 := (hB9.alloc hB9.size (.cells #[.int .u64 (limb 0 0), .int .u64 (limb 0 1), .int .u64 (limb 0 2), .int .u64 (limb 0 3)] 26)).trans (hb10.mono (by have := hB9.size; simp; omega))
  rw [txt64]
  go_wp2_with fail
  go_ret
  exact ⟨rfl, hB10⟩
end Go.Proofs.Ytibemleodghhfaa

/- Contracts of layer 4 (wide): Compare. -/
import Derived.Test.YtibemleodghhfaaRows
import Derived.Test.YtibemleodghhfaaKitA
import Derived.Test.YtibemleodghhfaaP2
import Derived.WalkKit
import Derived.WalkSpells
import Derived.WalkLawsBesides
import Derived.Deep.QuietTactic
import Derived.BigQuiet
import Derived.BigRegion
import Derived.Deep.DrawnRows
import Derived.Outline
namespace Go.Proofs.Ytibemleodghhfaa
open Go.RowKit
attribute [local go_sem ↓] Go.wp_at_zero Go.wp_at_succ
theorem divA_step (n k : Nat) : n / 18446744073709551616 ^ k = 18446744073709551616 * (n / 18446744073709551616 ^ (k + 1)) + n / 18446744073709551616 ^ k % 18446744073709551616 := by
  rw [Nat.pow_succ, ← Nat.div_div_eq_div_mul]; omega
theorem cmpA_lt {n m k : Nat} (h : n / 18446744073709551616 ^ (k + 1) = m / 18446744073709551616 ^ (k + 1)) (hd : limb n k < limb m k) : n < m := by
  have a := divA_step n k
  have b := divA_step m k
  unfold limb at hd
  exact lt_of_div (p := 18446744073709551616 ^ k) (by omega)
theorem cmpA_eq {n m k : Nat} (h : n / 18446744073709551616 ^ (k + 1) = m / 18446744073709551616 ^ (k + 1)) (h1 : ¬ limb n k < limb m k) (h2 : ¬ limb m k < limb n k) : n / 18446744073709551616 ^ k = m / 18446744073709551616 ^ k := by
  have a := divA_step n k
  have b := divA_step m k
  unfold limb at h1 h2
  omega
set_option maxHeartbeats 1000000 in
theorem compare_any (n m : Nat) (hn : W256 n) (hm : W256 m) (w : World) :
    Calls Try.prog 24 #[.agg #[.int .u64 (limb n 0), .int .u64 (limb n 1), .int .u64 (limb n 2), .int .u64 (limb n 3)], .agg #[.int .u64 (limb m 0), .int .u64 (limb m 1), .int .u64 (limb m 2), .int .u64 (limb m 3)]] w fun e w' =>
      e = .returned (.int .i64 (cmpI n m)) ∧ Below w.heap.size w w' := by
  go_enter Try.func24, Try.ntmps24
  go_wp2
  go_step3
  go_wp2
  go_step3
  go_wp2
  go_loopw [5, 6] (fun c i wr => ∃ k : Nat, k ≤ 4 ∧ c = .int .i64 0 ∧ i = .int .i64 ((k : Int) - 1) ∧ Hid (n / 18446744073709551616 ^ k = m / 18446744073709551616 ^ k) ∧ Blk wr w.heap.size 26 (wcells n) ∧ Blk wr (w.heap.size + 1) 26 (wcells m) ∧ Below w.heap.size w wr) (fun _ i _ => (intOf i + 1).toNat)
  case atStart => exact ⟨4, by omega, rfl, rfl, by show _ = _; rw [pow4, Nat.div_eq_of_lt hn, Nat.div_eq_of_lt hm], (blk1 w _ _).alloc _, blk2 w _ _ _, ((Below.refl _ _).alloc (Nat.le_refl _) _).alloc (by simp) _⟩
  case round =>
    obtain ⟨k, hk, rfl, rfl, heq, hb1, hb2, hb⟩ := hrel
    by_cases hlt : 0 < k
    · obtain ⟨j, rfl⟩ : ∃ j, k = j + 1 := ⟨k - 1, by omega⟩
      have hx := (hb1.cell j).trans (wcells_at n j (by omega))
      have hy := (hb2.cell j).trans (wcells_at m j (by omega))
      have hj : (j : Int) < 4 := by omega
      have hj0 : (0 : Int) ≤ (j : Int) := by omega
      rw [show ((j + 1 : Nat) : Int) - 1 = (j : Int) from by omega]
      by_cases h1 : limb n j < limb m j
      · have hres := Lib.hid (cmpI_lt (cmpA_lt heq.out h1))
        have hz : cmpZ (limb n j) (limb m j) = -1 := by simp [cmpZ, h1]
        go_wp2_with fail
        go_quiet ((go_at_call 46; exact Calls.quiet_of_same ((cmpc_any _ _ _).mono fun _ _ h => ⟨h.1, h.2.symm⟩)))
        go_wp2_with fail
        rw [Exit.noGoto_ret]
        go_ret
        exact ⟨by rw [hres.out]; first | rfl | simp [hz], below_drewN hb _⟩
      · by_cases h2 : limb m j < limb n j
        · have hres := Lib.hid (cmpI_gt (cmpA_lt heq.out.symm h2))
          have hz : cmpZ (limb n j) (limb m j) = 1 := by simp [cmpZ, h1, h2]
          go_wp2_with fail
          go_quiet ((go_at_call 46; exact Calls.quiet_of_same ((cmpc_any _ _ _).mono fun _ _ h => ⟨h.1, h.2.symm⟩)))
          go_wp2_with fail
          rw [Exit.noGoto_ret]
          go_ret
          exact ⟨by rw [hres.out]; first | rfl | simp [hz], below_drewN hb _⟩
        · have heq' := Lib.hid (cmpA_eq heq.out h1 h2)
          have hz : cmpZ (limb n j) (limb m j) = 0 := by simp [cmpZ, h1, h2]
          go_wp2_with fail
          go_quiet ((go_at_call 46; exact Calls.quiet_of_same ((cmpc_any _ _ _).mono fun _ _ h => ⟨h.1, h.2.symm⟩)))
          go_wp2_with fail
          go_roundw
          case rel => exact ⟨j, by omega, by rw [hz], rfl, heq', hb1.drewN _, hb2.drewN _, below_drewN hb _⟩
          case measure => simp [intOf]
    · obtain rfl : k = 0 := by omega
      have hres : cmpI n m = 0 := cmpI_eq (by have := heq.out; simpa using this)
      rw [show ((0 : Nat) : Int) - 1 = -1 from by omega]
      go_wp2_with fail
      try rw [Exit.noGoto_ret]
      go_ret
      exact ⟨by rw [hres]; rfl, hb⟩
end Go.Proofs.Ytibemleodghhfaa

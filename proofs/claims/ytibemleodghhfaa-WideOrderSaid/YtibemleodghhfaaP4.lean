/- Contracts of layer 4 (wide): Times. -/
import Derived.Test.YtibemleodghhfaaRows
import Derived.Test.YtibemleodghhfaaKitA
import Derived.Test.YtibemleodghhfaaWd5
import Derived.Test.YtibemleodghhfaaP2
import Derived.Test.YtibemleodghhfaaShelf
import Derived.WalkKit
import Derived.WalkSpells
import Derived.WalkLawsBesides
import Derived.Deep.QuietTactic
import Derived.BigQuiet
import Derived.BigRegion
import Derived.Deep.DrawnRows
import Derived.Outline
namespace Go.Proofs.Ytibemleodghhfaa
open Go.RowKit
attribute [local go_sem ↓] Go.wp_at_zero Go.wp_at_succ
theorem mul_limb (N n k : Nat) (hn : n < 18446744073709551616) (w : World) :
    Calls Try.prog 42 #[.int .u64 (limb N k), .int .u64 (n : Int)] w fun e w' => e = .returned (.tuple #[.int .u64 (mhi N n k), .int .u64 (mlo N n k)]) ∧ w = w' :=
  (Try.bits_Mul64 (N / 18446744073709551616 ^ k % 18446744073709551616) n (Nat.mod_lt _ (by decide)) hn w).mono fun _ _ ⟨h1, h2⟩ => ⟨h1, h2.symm⟩
theorem cf_times (N n k : Nat) (w : World) :
    (callFunc 43 #[.int .u64 (mlo N n k), .int .u64 (ov N n k : Int), .int .u64 0]).run Try.prog w = .ok (.value (.tuple #[.int .u64 (limb (N * n) k), .int .u64 (tcar N n k)])) w := by
  have h := times_limb N n k
  rw [run_cf_add64, run_add64 _ _ _ (by unfold mlo; omega) (Int.natCast_nonneg _) (by decide) (by decide), h.1, h.2]; rfl
theorem cf_times0 (N n : Nat) (w : World) :
    (callFunc 43 #[.int .u64 (mlo N n 0), .int .u64 0, .int .u64 0]).run Try.prog w = .ok (.value (.tuple #[.int .u64 (limb (N * n) 0), .int .u64 (tcar N n 0)])) w := by
  have h := cf_times N n 0 w
  rw [ov_zero] at h
  exact h
attribute [local go_sem] cf_times cf_times0
set_option maxHeartbeats 1000000 in
theorem times_any (N n : Nat) (hN : W256 N) (hn : n < 18446744073709551616) (w : World) :
    Calls Try.prog 20 #[.agg #[.int .u64 (limb N 0), .int .u64 (limb N 1), .int .u64 (limb N 2), .int .u64 (limb N 3)], .int .u64 (n : Int)] w fun e w' =>
      e = .returned (.tuple #[.agg #[.int .u64 (limb (wN (N * n)) 0), .int .u64 (limb (wN (N * n)) 1), .int .u64 (limb (wN (N * n)) 2), .int .u64 (limb (wN (N * n)) 3)], .bool (wOk (N * n))]) ∧ Below w.heap.size w w' := by
  have Hr := Lib.hid (fun w => right_any (N * n) (ov N n 4) (limb (N * n) 0) (limb (N * n) 1) (limb (N * n) 2) (limb (N * n) 3) (by
    rw [ov_top N n hN]
    rcases Nat.lt_or_ge (N * n) (256 ^ 32) with h | h
    · exact .inl ⟨Nat.div_eq_of_lt h, rfl, rfl, rfl, rfl, h⟩
    · exact .inr ⟨Nat.div_pos h (by decide), by omega⟩) w)
  have hov := fun k => times_over N n k hn
  have Hm := Lib.hid (fun k w => mul_limb N n k hn w)
  clear hn hN
  go_enter Try.func20, Try.ntmps20
  go_wp2
  refine wp_loop_rounds 5 ?_
  rw [rounds_succ]
  go_wp2_with fail
  refine (Hm.out _ _).mono ?_
  rintro e w1 ⟨rfl, rfl⟩
  go_wp2_with fail
  rw [rounds_succ]
  go_wp2_with fail
  refine (Hm.out _ _).mono ?_
  rintro e w1 ⟨rfl, rfl⟩
  go_wp2_with fail
  rw [rounds_succ]
  go_wp2_with fail
  refine (Hm.out _ _).mono ?_
  rintro e w1 ⟨rfl, rfl⟩
  go_wp2_with fail
  rw [rounds_succ]
  go_wp2_with fail
  refine (Hm.out _ _).mono ?_
  rintro e w1 ⟨rfl, rfl⟩
  go_wp2_with fail
  rw [rounds_succ]
  go_wp2_with fail
  refine (Hr.out _).mono ?_
  rintro e w1 ⟨rfl, hb1⟩
  have hr0 := (blk2 w _ _ _).below hb1 (by simp)
  have hB : Below w.heap.size w w1 := (((Below.refl _ _).alloc (Nat.le_refl _) _).alloc (by simp) _).trans (hb1.mono (by simp; omega))
  have hc2 := fun i => hr0.cell i
  have hf2 := fun i => hr0.free i
  go_wp2
  have hcc := fun i => (hr0.store4 (.int .u64 (limb (wN (N * n)) 0)) (.int .u64 (limb (wN (N * n)) 1)) (.int .u64 (limb (wN (N * n)) 2)) (.int .u64 (limb (wN (N * n)) 3))).cell i
  refine bodyPost_ret (v := .tuple #[.agg #[.int .u64 (limb (wN (N * n)) 0), .int .u64 (limb (wN (N * n)) 1), .int .u64 (limb (wN (N * n)) 2), .int .u64 (limb (wN (N * n)) 3)], .bool (wOk (N * n))]) (by simp [results, Try.results20, go_sem, hcc]) rfl ⟨rfl, below_store4 hB (by omega) _ _ _ _⟩
end Go.Proofs.Ytibemleodghhfaa

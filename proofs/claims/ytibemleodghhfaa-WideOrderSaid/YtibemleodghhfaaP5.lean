/- Contracts of layer 4 (wide): Part. -/
import Derived.Test.YtibemleodghhfaaRows
import Derived.Test.YtibemleodghhfaaKitA
import Derived.Test.YtibemleodghhfaaWd7
import Derived.Test.YtibemleodghhfaaP2
import Derived.Test.YtibemleodghhfaaDiv
import Derived.WalkKit
import Derived.WalkSpells
import Derived.WalkLawsBesides
import Derived.Deep.QuietTactic
import Derived.BigQuiet
import Derived.BigRegion
import Derived.Deep.DrawnRows
import Derived.Outline
namespace Go.Proofs.Ytibemleodghhfaa
open Go.RowKit
attribute [local go_sem ↓] Go.wp_at_zero Go.wp_at_succ
theorem div_limb (N n k : Nat) (hn : 0 < n) (hn2 : n < 18446744073709551616) (w : World) :
    Calls Try.prog 39 #[.int .u64 (rst N n (k + 1) : Int), .int .u64 (limb N k), .int .u64 (n : Int)] w fun e w' => e = .returned (.tuple #[.int .u64 (limb (N / n) k), .int .u64 (rst N n k : Int)]) ∧ ∃ q, w' = w.drewN q := by
  obtain ⟨a, b⟩ := part_limb N n k hn hn2
  have h := div64_any (rst N n (k + 1)) (N / 18446744073709551616 ^ k % 18446744073709551616) n (rst_lt N n (k + 1) hn) hn2 (Nat.mod_lt _ (by decide)) w
  rw [a, b] at h
  exact h
set_option maxHeartbeats 1000000 in
theorem part_yes (N n : Nat) (hN : W256 N) (hn : 0 < n) (hn2 : n < 18446744073709551616) (w : World) :
    Calls Try.prog 15 #[.agg #[.int .u64 (limb N 0), .int .u64 (limb N 1), .int .u64 (limb N 2), .int .u64 (limb N 3)], .int .u64 (n : Int)] w fun e w' =>
      e = .returned (.tuple #[.agg #[.int .u64 (limb (N / n) 0), .int .u64 (limb (N / n) 1), .int .u64 (limb (N / n) 2), .int .u64 (limb (N / n) 3)], .int .u64 ((N % n : Nat) : Int)]) ∧ Below w.heap.size w w' := by
  have hz : ((n : Int) == 0) = false := by simp; omega
  have H3 := Lib.hid (fun w => div_limb N n 3 hn hn2 w)
  have H2 := Lib.hid (fun w => div_limb N n 2 hn hn2 w)
  have H1 := Lib.hid (fun w => div_limb N n 1 hn hn2 w)
  have H0 := Lib.hid (fun w => div_limb N n 0 hn hn2 w)
  rw [rst_top N n hN] at H3
  rw [rst_bot] at H0
  clear hN hn hn2
  go_enter Try.func15, Try.ntmps15
  go_wp2
  refine wp_loop_rounds 5 ?_
  rw [rounds_succ]
  go_wp2_with fail
  refine (H3.out _).mono ?_
  rintro e w1 ⟨rfl, q3, rfl⟩
  go_wp2_with fail
  rw [rounds_succ]
  go_wp2_with fail
  refine (H2.out _).mono ?_
  rintro e w1 ⟨rfl, q2, rfl⟩
  go_wp2_with fail
  rw [rounds_succ]
  go_wp2_with fail
  refine (H1.out _).mono ?_
  rintro e w1 ⟨rfl, q1, rfl⟩
  go_wp2_with fail
  rw [rounds_succ]
  go_wp2_with fail
  refine (H0.out _).mono ?_
  rintro e w1 ⟨rfl, q0, rfl⟩
  go_wp2_with fail
  rw [rounds_succ]
  go_wp2_with fail
  rw [Int.natCast_emod]
  have hr := (((((((((blk2 w (.cells #[.int .u64 (limb N 0), .int .u64 (limb N 1), .int .u64 (limb N 2), .int .u64 (limb N 3)] 26) 26 #[.int .u64 0, .int .u64 0, .int .u64 0, .int .u64 0]).drewN q3).far (p := ⟨w.heap.size, 3, none⟩) (by simp) (.int .u64 (limb (N / n) 3))).drewN q2).far (p := ⟨w.heap.size, 2, none⟩) (by simp) (.int .u64 (limb (N / n) 2))).drewN q1).far (p := ⟨w.heap.size, 1, none⟩) (by simp) (.int .u64 (limb (N / n) 1))).drewN q0).far (p := ⟨w.heap.size, 0, none⟩) (by simp) (.int .u64 (limb (N / n) 0)))
  have hcc := fun i => (hr.store4 (.int .u64 (limb (N / n) 0)) (.int .u64 (limb (N / n) 1)) (.int .u64 (limb (N / n) 2)) (.int .u64 (limb (N / n) 3))).cell i
  have hB : Below w.heap.size w ((w.alloc (.cells #[.int .u64 (limb N 0), .int .u64 (limb N 1), .int .u64 (limb N 2), .int .u64 (limb N 3)] 26)).alloc (.cells #[.int .u64 0, .int .u64 0, .int .u64 0, .int .u64 0] 26)) := ((Below.refl _ _).alloc (Nat.le_refl _) _).alloc (by simp) _
  have hB4 := ((drewN_below ((drewN_below ((drewN_below ((drewN_below hB q3).setCell (p := ⟨w.heap.size, 3, none⟩) (Nat.le_refl _) (.int .u64 (limb (N / n) 3))) q2).setCell (p := ⟨w.heap.size, 2, none⟩) (Nat.le_refl _) (.int .u64 (limb (N / n) 2))) q1).setCell (p := ⟨w.heap.size, 1, none⟩) (Nat.le_refl _) (.int .u64 (limb (N / n) 1))) q0).setCell (p := ⟨w.heap.size, 0, none⟩) (Nat.le_refl _) (.int .u64 (limb (N / n) 0)))
  refine bodyPost_ret (v := .tuple #[.agg #[.int .u64 (limb (N / n) 0), .int .u64 (limb (N / n) 1), .int .u64 (limb (N / n) 2), .int .u64 (limb (N / n) 3)], .int .u64 ((N : Int) % (n : Int))]) (by simp [results, Try.results15, go_sem, hcc]) rfl ⟨rfl, ?_⟩
  exact below_store4 hB4 (by omega) _ _ _ _
set_option maxHeartbeats 1000000 in
theorem part_zero (N : Nat) (w : World) :
    Calls Try.prog 15 #[.agg #[.int .u64 (limb N 0), .int .u64 (limb N 1), .int .u64 (limb N 2), .int .u64 (limb N 3)], .int .u64 0] w fun e w' =>
      e = .returned (.tuple #[.agg #[.int .u64 0, .int .u64 0, .int .u64 0, .int .u64 0], .int .u64 0]) ∧ Below w.heap.size w w' := by
  go_enter Try.func15, Try.ntmps15
  go_wp2
  refine bodyPost_ret (v := .tuple #[.agg #[.int .u64 0, .int .u64 0, .int .u64 0, .int .u64 0], .int .u64 0]) (by simp [results, Try.results15, go_sem]) rfl ⟨rfl, ?_⟩
  exact ((Below.refl _ _).alloc (Nat.le_refl _) _).alloc (by simp) _
end Go.Proofs.Ytibemleodghhfaa

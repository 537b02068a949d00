/- Contracts of layer 4 (wide): Of, Most, Zero, Compare, Add, Sub. -/
import Derived.Test.YtibemleodghhfaaRows
import Derived.Test.YtibemleodghhfaaKitA
import Derived.Test.YtibemleodghhfaaWd3
import Derived.WalkKit
import Derived.WalkSpells
import Derived.WalkLawsBesides
import Derived.Deep.QuietTactic
import Derived.BigQuiet
import Derived.BigRegion
import Derived.Deep.DrawnRows
import Derived.Outline
namespace Go.Proofs.Ytibemleodghhfaa
open Go.RowKit
attribute [local go_sem ↓] Go.wp_at_zero Go.wp_at_succ
theorem run_cf_add64 (args : Array Value) (w : World) : (callFunc 43 args).run Try.prog w = ((add64Entry args).run Try.prog w).andThen fun v w' => .ok (.value v) w' :=
  run_callFunc_extern Try.func43 (by kernel_rfl) (by kernel_rfl) (by kernel_rfl) (by kernel_rfl) args w
theorem run_cf_sub64 (args : Array Value) (w : World) : (callFunc 45 args).run Try.prog w = ((sub64Entry args).run Try.prog w).andThen fun v w' => .ok (.value v) w' :=
  run_callFunc_extern Try.func45 (by kernel_rfl) (by kernel_rfl) (by kernel_rfl) (by kernel_rfl) args w
theorem cf_add64 (n m k : Nat) (w : World) :
    (callFunc 43 #[.int .u64 (limb n k), .int .u64 (limb m k), .int .u64 (cyL n m k : Int)]).run Try.prog w = .ok (.value (.tuple #[.int .u64 (limb (n + m) k), .int .u64 (cyL n m (k + 1) : Int)])) w := by
  have h := limb_sum n m k
  have hc := cyL_le n m k
  rw [run_cf_add64, run_add64 _ _ _ (Lim.limb n k).1 (Lim.limb m k).1 (Int.natCast_nonneg _) (by omega), h.1, h.2]; rfl
theorem cf_add64_0 (n m : Nat) (w : World) :
    (callFunc 43 #[.int .u64 (limb n 0), .int .u64 (limb m 0), .int .u64 0]).run Try.prog w = .ok (.value (.tuple #[.int .u64 (limb (n + m) 0), .int .u64 (cyL n m 1 : Int)])) w := by
  have h := cf_add64 n m 0 w
  rw [show cyL n m 0 = 0 from cyB_zero _ _ _] at h
  exact h
theorem cf_sub64 (n m k : Nat) (w : World) :
    (callFunc 45 #[.int .u64 (limb n k), .int .u64 (limb m k), .int .u64 (owL n m k : Int)]).run Try.prog w = .ok (.value (.tuple #[.int .u64 (subL n m k), .int .u64 (owL n m (k + 1) : Int)])) w := by
  have hc := owL_le n m k
  have e := owL_step n m k
  have h := run_sub64 (P := Try.prog) (n / 18446744073709551616 ^ k % 18446744073709551616) (m / 18446744073709551616 ^ k % 18446744073709551616) (owL n m k) (Nat.mod_lt _ (by decide)) hc w
  have e2 : (if n / 18446744073709551616 ^ k % 18446744073709551616 < m / 18446744073709551616 ^ k % 18446744073709551616 + owL n m k then (1 : Int) else 0) = (owL n m (k + 1) : Int) := by rw [e]; split <;> rfl
  rw [e2] at h
  rw [run_cf_sub64]
  show ((sub64Entry #[.int .u64 ((n / 18446744073709551616 ^ k % 18446744073709551616 : Nat) : Int), .int .u64 ((m / 18446744073709551616 ^ k % 18446744073709551616 : Nat) : Int), .int .u64 (owL n m k : Int)]).run Try.prog w).andThen _ = _
  rw [h]
  rfl
theorem cf_sub64_0 (n m : Nat) (w : World) :
    (callFunc 45 #[.int .u64 (limb n 0), .int .u64 (limb m 0), .int .u64 0]).run Try.prog w = .ok (.value (.tuple #[.int .u64 (subL n m 0), .int .u64 (owL n m 1 : Int)])) w := by
  have h := cf_sub64 n m 0 w
  rw [show owL n m 0 = 0 from owL_zero _ _] at h
  exact h
attribute [local go_sem] cf_add64 cf_add64_0 cf_sub64 cf_sub64_0

set_option maxHeartbeats 400000 in
theorem right_yes (a b c d : Int) (w : World) :
    Calls Try.prog 44 #[.agg #[.int .u64 a, .int .u64 b, .int .u64 c, .int .u64 d], .int .u64 0] w fun e w' => e = .returned (.tuple #[.agg #[.int .u64 a, .int .u64 b, .int .u64 c, .int .u64 d], .bool true]) ∧ Below w.heap.size w w' := by
  go_enter Try.func44, Try.ntmps44
  go_wp2
  refine bodyPost_ret (v := .tuple #[.agg #[.int .u64 a, .int .u64 b, .int .u64 c, .int .u64 d], .bool true]) (by simp [results, Try.results44, go_sem]) rfl ⟨rfl, ((Below.refl _ _).alloc (Nat.le_refl _) _).alloc (by simp) _⟩
set_option maxHeartbeats 400000 in
theorem right_no (a b c d n : Int) (hn : (n != 0) = true) (w : World) :
    Calls Try.prog 44 #[.agg #[.int .u64 a, .int .u64 b, .int .u64 c, .int .u64 d], .int .u64 n] w fun e w' => e = .returned (.tuple #[.agg #[.int .u64 0, .int .u64 0, .int .u64 0, .int .u64 0], .bool false]) ∧ Below w.heap.size w w' := by
  go_enter Try.func44, Try.ntmps44
  go_wp2
  refine bodyPost_ret (v := .tuple #[.agg #[.int .u64 0, .int .u64 0, .int .u64 0, .int .u64 0], .bool false]) (by simp [results, Try.results44, go_sem]) rfl ⟨rfl, ((Below.refl _ _).alloc (Nat.le_refl _) _).alloc (by simp) _⟩
theorem w0' : limb 0 0 = 0 ∧ limb 0 1 = 0 ∧ limb 0 2 = 0 ∧ limb 0 3 = 0 := by simp [limb]
/-- What 'right' makes of the limbs of a sum and its last carry. -/
theorem right_any (X c : Nat) (a0 a1 a2 a3 : Int) (hc : (c = 0 ∧ a0 = limb X 0 ∧ a1 = limb X 1 ∧ a2 = limb X 2 ∧ a3 = limb X 3 ∧ X < 256 ^ 32) ∨ (0 < c ∧ ¬ X < 256 ^ 32)) (w : World) :
    Calls Try.prog 44 #[.agg #[.int .u64 a0, .int .u64 a1, .int .u64 a2, .int .u64 a3], .int .u64 (c : Int)] w fun e w' =>
      e = .returned (.tuple #[.agg #[.int .u64 (limb (wN X) 0), .int .u64 (limb (wN X) 1), .int .u64 (limb (wN X) 2), .int .u64 (limb (wN X) 3)], .bool (wOk X)]) ∧ Below w.heap.size w w' := by
  rcases hc with ⟨rfl, rfl, rfl, rfl, rfl, h⟩ | ⟨h0, h⟩
  · have e1 : wN X = X := by unfold wN; rw [if_pos h]
    have e2 : wOk X = true := decide_eq_true h
    rw [e1, e2]
    exact right_yes _ _ _ _ w
  · have e1 : wN X = 0 := by unfold wN; rw [if_neg h]
    have e2 : wOk X = false := decide_eq_false h
    rw [e1, e2, w0'.1, w0'.2.1, w0'.2.2.1, w0'.2.2.2]
    exact right_no _ _ _ _ _ (by simp; omega) w

set_option maxHeartbeats 1000000 in
theorem add_any (n m : Nat) (hn : n < 256 ^ 32) (hm : m < 256 ^ 32) (w : World) :
    Calls Try.prog 21 #[.agg #[.int .u64 (limb n 0), .int .u64 (limb n 1), .int .u64 (limb n 2), .int .u64 (limb n 3)], .agg #[.int .u64 (limb m 0), .int .u64 (limb m 1), .int .u64 (limb m 2), .int .u64 (limb m 3)]] w fun e w' =>
      e = .returned (.tuple #[.agg #[.int .u64 (limb (wN (n + m)) 0), .int .u64 (limb (wN (n + m)) 1), .int .u64 (limb (wN (n + m)) 2), .int .u64 (limb (wN (n + m)) 3)], .bool (wOk (n + m))]) ∧ Below w.heap.size w w' := by
  have Hr := Lib.hid (fun w => right_any (n + m) (cyL n m 4) (limb (n + m) 0) (limb (n + m) 1) (limb (n + m) 2) (limb (n + m) 3) (by
    rw [cyL_top n m hn hm]
    rcases Nat.lt_or_ge (n + m) (256 ^ 32) with h | h
    · exact .inl ⟨Nat.div_eq_of_lt h, rfl, rfl, rfl, rfl, h⟩
    · exact .inr ⟨Nat.div_pos h (by decide), by omega⟩) w)
  clear hn hm
  go_enter Try.func21, Try.ntmps21
  go_wp2
  refine wp_loop_rounds 5 ?_
  rw [rounds_succ]
  go_wp2_with fail
  go_region
  go_wp2_with fail
  rw [rounds_succ]
  go_wp2_with fail
  go_region
  go_wp2_with fail
  rw [rounds_succ]
  go_wp2_with fail
  go_region
  go_wp2_with fail
  rw [rounds_succ]
  go_wp2_with fail
  go_region
  go_wp2_with fail
  rw [rounds_succ]
  go_wp2_with fail
  refine (Hr.out _).mono ?_
  rintro e w1 ⟨rfl, hb1⟩
  have hr0 := (blk3 w _ _ _ _).drew.drew.drew.drew.below hb1 (by simp)
  have hB : Below w.heap.size w w1 := (((((((Below.refl _ _).alloc (Nat.le_refl _) _).alloc (by simp) _).alloc (by simp; omega) _).drew).drew).drew).drew.trans (hb1.mono (by simp; omega))
  have hc2 := fun i => hr0.cell i
  have hf2 := fun i => hr0.free i
  go_wp2
  have hcc := fun i => (hr0.store4 (.int .u64 (limb (wN (n + m)) 0)) (.int .u64 (limb (wN (n + m)) 1)) (.int .u64 (limb (wN (n + m)) 2)) (.int .u64 (limb (wN (n + m)) 3))).cell i
  refine bodyPost_ret (v := .tuple #[.agg #[.int .u64 (limb (wN (n + m)) 0), .int .u64 (limb (wN (n + m)) 1), .int .u64 (limb (wN (n + m)) 2), .int .u64 (limb (wN (n + m)) 3)], .bool (wOk (n + m))]) (by simp [results, Try.results21, go_sem, hcc]) rfl ⟨rfl, below_store4 hB (by omega) _ _ _ _⟩

set_option maxHeartbeats 1000000 in
theorem sub_yes (n m : Nat) (hn : n < 256 ^ 32) (hm : m < 256 ^ 32) (h : m ≤ n) (w : World) :
    Calls Try.prog 23 #[.agg #[.int .u64 (limb n 0), .int .u64 (limb n 1), .int .u64 (limb n 2), .int .u64 (limb n 3)], .agg #[.int .u64 (limb m 0), .int .u64 (limb m 1), .int .u64 (limb m 2), .int .u64 (limb m 3)]] w fun e w' =>
      e = .returned (.tuple #[.agg #[.int .u64 (limb (n - m) 0), .int .u64 (limb (n - m) 1), .int .u64 (limb (n - m) 2), .int .u64 (limb (n - m) 3)], .bool true]) ∧ Below w.heap.size w w' := by
  have Hr := Lib.hid (fun w => right_yes (subL n m 0) (subL n m 1) (subL n m 2) (subL n m 3) w)
  have e4 : (owL n m 4 : Int) = 0 := by rw [owL_top n m hn hm, if_neg (by omega)]; rfl
  have s0 := subL_eq n m 0 h
  have s1 := subL_eq n m 1 h
  have s2 := subL_eq n m 2 h
  have s3 := subL_eq n m 3 h
  rw [s0, s1, s2, s3] at Hr
  clear hn hm h
  go_enter Try.func23, Try.ntmps23
  go_wp2
  refine wp_loop_rounds 5 ?_
  rw [rounds_succ]
  go_wp2_with fail
  go_region
  go_wp2_with fail
  rw [rounds_succ]
  go_wp2_with fail
  go_region
  go_wp2_with fail
  rw [rounds_succ]
  go_wp2_with fail
  go_region
  go_wp2_with fail
  rw [rounds_succ]
  go_wp2_with fail
  go_region
  go_wp2_with fail
  rw [rounds_succ]
  go_wp2_with fail
  refine (Hr.out _).mono ?_
  rintro e w1 ⟨rfl, hb1⟩
  have hr0 := (blk3 w _ _ _ _).drew.drew.drew.drew.below hb1 (by simp)
  have hB : Below w.heap.size w w1 := (((((((Below.refl _ _).alloc (Nat.le_refl _) _).alloc (by simp) _).alloc (by simp; omega) _).drew).drew).drew).drew.trans (hb1.mono (by simp; omega))
  have hc2 := fun i => hr0.cell i
  have hf2 := fun i => hr0.free i
  go_wp2
  have hcc := fun i => (hr0.store4 (.int .u64 (limb (n - m) 0)) (.int .u64 (limb (n - m) 1)) (.int .u64 (limb (n - m) 2)) (.int .u64 (limb (n - m) 3))).cell i
  refine bodyPost_ret (v := .tuple #[.agg #[.int .u64 (limb (n - m) 0), .int .u64 (limb (n - m) 1), .int .u64 (limb (n - m) 2), .int .u64 (limb (n - m) 3)], .bool true]) (by simp [results, Try.results23, go_sem, hcc]) rfl ⟨rfl, below_store4 hB (by omega) _ _ _ _⟩

set_option maxHeartbeats 1000000 in
theorem sub_no (n m : Nat) (hn : n < 256 ^ 32) (hm : m < 256 ^ 32) (h : n < m) (w : World) :
    Calls Try.prog 23 #[.agg #[.int .u64 (limb n 0), .int .u64 (limb n 1), .int .u64 (limb n 2), .int .u64 (limb n 3)], .agg #[.int .u64 (limb m 0), .int .u64 (limb m 1), .int .u64 (limb m 2), .int .u64 (limb m 3)]] w fun e w' =>
      e = .returned (.tuple #[.agg #[.int .u64 0, .int .u64 0, .int .u64 0, .int .u64 0], .bool false]) ∧ Below w.heap.size w w' := by
  have Hr := Lib.hid (fun w => right_no (subL n m 0) (subL n m 1) (subL n m 2) (subL n m 3) 1 (by decide) w)
  have e4 : (owL n m 4 : Int) = 1 := by rw [owL_top n m hn hm, if_pos h]; rfl
  clear hn hm h
  go_enter Try.func23, Try.ntmps23
  go_wp2
  refine wp_loop_rounds 5 ?_
  rw [rounds_succ]
  go_wp2_with fail
  go_region
  go_wp2_with fail
  rw [rounds_succ]
  go_wp2_with fail
  go_region
  go_wp2_with fail
  rw [rounds_succ]
  go_wp2_with fail
  go_region
  go_wp2_with fail
  rw [rounds_succ]
  go_wp2_with fail
  go_region
  go_wp2_with fail
  rw [rounds_succ]
  go_wp2_with fail
  refine (Hr.out _).mono ?_
  rintro e w1 ⟨rfl, hb1⟩
  have hr0 := (blk3 w _ _ _ _).drew.drew.drew.drew.below hb1 (by simp)
  have hB : Below w.heap.size w w1 := (((((((Below.refl _ _).alloc (Nat.le_refl _) _).alloc (by simp) _).alloc (by simp; omega) _).drew).drew).drew).drew.trans (hb1.mono (by simp; omega))
  have hc2 := fun i => hr0.cell i
  have hf2 := fun i => hr0.free i
  go_wp2
  have hcc := fun i => (hr0.store4 (.int .u64 0) (.int .u64 0) (.int .u64 0) (.int .u64 0)).cell i
  refine bodyPost_ret (v := .tuple #[.agg #[.int .u64 0, .int .u64 0, .int .u64 0, .int .u64 0], .bool false]) (by simp [results, Try.results23, go_sem, hcc]) rfl ⟨rfl, below_store4 hB (by omega) _ _ _ _⟩
end Go.Proofs.Ytibemleodghhfaa

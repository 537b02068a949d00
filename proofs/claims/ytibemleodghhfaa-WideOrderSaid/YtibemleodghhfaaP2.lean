/- Contracts of layer 4 (wide): Of, Most, Zero, Compare. -/
import Derived.Test.YtibemleodghhfaaRows
import Derived.Test.YtibemleodghhfaaKitA
import Derived.Test.YtibemleodghhfaaWd4
import Derived.Test.YtibemleodghhfaaP1
import Derived.WalkKit
import Derived.WalkSpells
import Derived.WalkLawsBesides
import Derived.Deep.QuietTactic
import Derived.BigQuiet
import Derived.BigRegion
import Derived.Deep.DrawnRows
import Derived.Outline
namespace Go.Proofs.Ytibemleodghhfaa
open Go.RowKit
attribute [local go_sem ↓] Go.wp_at_zero Go.wp_at_succ
theorem eqWide4 (a b c d a' b' c' d' : Int) (w : World) : (Op.equalIn 10000 26 (.agg #[.int .u64 a, .int .u64 b, .int .u64 c, .int .u64 d]) (.agg #[.int .u64 a', .int .u64 b', .int .u64 c', .int .u64 d'])).run Try.prog w = .ok (a == a' && (b == b' && (c == c' && d == d'))) w := by
  have u3 := Try.underlying24
  have a3 := Try.isAgg24
  have z3 := Try.sizeOf24
  rw [show (10000 : Nat) = 9999 + 1 from rfl, Op.equalIn]
  simp only [Sem.run_bind, run_underlying Try.underlying26, Result.andThen_ok]
  simp only [Std.Legacy.Range.forIn_eq_forIn_range', Std.Legacy.Range.size, Nat.sub_zero, Nat.add_sub_cancel, Nat.div_one, List.range'_succ, List.range'_zero, List.forIn_cons, List.forIn_nil]
  go_simp
  by_cases h1 : a = a' <;> by_cases h2 : b = b' <;> by_cases h3 : c = c' <;> by_cases h4 : d = d' <;> simp [h1, h2, h3, h4]

theorem eqWide (n m : Nat) (hn : W256 n) (hm : W256 m) (w : World) : (Op.equalIn 10000 26 (.agg #[.int .u64 (limb n 0), .int .u64 (limb n 1), .int .u64 (limb n 2), .int .u64 (limb n 3)]) (.agg #[.int .u64 (limb m 0), .int .u64 (limb m 1), .int .u64 (limb m 2), .int .u64 (limb m 3)])).run Try.prog w = .ok (decide (n = m)) w := by
  rw [eqWide4, limbs_beq hn hm]
theorem eqWide0 (n : Nat) (hn : W256 n) (w : World) : (Op.equalIn 10000 26 (.agg #[.int .u64 (limb n 0), .int .u64 (limb n 1), .int .u64 (limb n 2), .int .u64 (limb n 3)]) (.agg #[.int .u64 0, .int .u64 0, .int .u64 0, .int .u64 0])).run Try.prog w = .ok (decide (n = 0)) w := by
  have h := eqWide n 0 hn W256.zero w
  rw [w0'.1, w0'.2.1, w0'.2.2.1, w0'.2.2.2] at h
  exact h
set_option maxHeartbeats 400000 in
theorem zero_any (n : Nat) (hn : W256 n) (w : World) :
    Calls Try.prog 28 #[.agg #[.int .u64 (limb n 0), .int .u64 (limb n 1), .int .u64 (limb n 2), .int .u64 (limb n 3)]] w fun e w' => e = .returned (.bool (decide (n = 0))) ∧ Below w.heap.size w w' := by
  have heq := eqWide0 n hn
  go_enter Try.func28, Try.ntmps28
  go_wp2
  go_ret
  exact ⟨rfl, (Below.refl _ _).alloc (Nat.le_refl _) _⟩
theorem limb_most : limb (256 ^ 32 - 1) 0 = 18446744073709551615 ∧ limb (256 ^ 32 - 1) 1 = 18446744073709551615 ∧ limb (256 ^ 32 - 1) 2 = 18446744073709551615 ∧ limb (256 ^ 32 - 1) 3 = 18446744073709551615 := by
  refine ⟨?_, ?_, ?_, ?_⟩ <;> decide +kernel
set_option maxHeartbeats 400000 in
theorem most_any (w : World) :
    Calls Try.prog 22 #[] w fun e w' => e = .returned (.agg #[.int .u64 (limb (256 ^ 32 - 1) 0), .int .u64 (limb (256 ^ 32 - 1) 1), .int .u64 (limb (256 ^ 32 - 1) 2), .int .u64 (limb (256 ^ 32 - 1) 3)]) ∧ Below w.heap.size w w' := by
  have Hm := Lib.hid limb_most
  rw [Hm.out.1, Hm.out.2.1, Hm.out.2.2.1, Hm.out.2.2.2]
  go_enter Try.func22, Try.ntmps22
  go_wp2
  refine wp_loop_rounds 5 ?_
  rw [rounds_succ]
  go_wp2
  rw [rounds_succ]
  go_wp2
  rw [rounds_succ]
  go_wp2
  rw [rounds_succ]
  go_wp2
  rw [rounds_succ]
  go_wp2
  refine bodyPost_ret (v := .agg #[.int .u64 18446744073709551615, .int .u64 18446744073709551615, .int .u64 18446744073709551615, .int .u64 18446744073709551615]) (by simp [results, Try.results22, go_sem]) rfl ⟨rfl, ((Below.refl _ _).alloc (Nat.le_refl _) _).alloc (by simp) _⟩
theorem limb_small (n : Nat) (h : n < 18446744073709551616) : limb n 0 = (n : Int) ∧ limb n 1 = 0 ∧ limb n 2 = 0 ∧ limb n 3 = 0 := by
  rw [limb0, limb1, limb2, limb3]
  refine ⟨?_, ?_, ?_, ?_⟩ <;> omega
set_option maxHeartbeats 400000 in
theorem of_any (n : Nat) (h : n < 18446744073709551616) (w : World) :
    Calls Try.prog 18 #[.int .u64 (n : Int)] w fun e w' => e = .returned (.agg #[.int .u64 (limb n 0), .int .u64 (limb n 1), .int .u64 (limb n 2), .int .u64 (limb n 3)]) ∧ Below w.heap.size w w' := by
  have Hl := Lib.hid (limb_small n h)
  clear h
  rw [Hl.out.1, Hl.out.2.1, Hl.out.2.2.1, Hl.out.2.2.2]
  go_enter Try.func18, Try.ntmps18
  go_wp2
  refine bodyPost_ret (v := .agg #[.int .u64 (n : Int), .int .u64 0, .int .u64 0, .int .u64 0]) (by simp [results, Try.results18, go_sem]) rfl ⟨rfl, (Below.refl _ _).alloc (Nat.le_refl _) _⟩
set_option maxHeartbeats 400000 in
theorem isnan_any (x : Int) (w : World) : Calls Try.prog 50 #[.int .u64 x] w fun e w' => e = .returned (.bool false) ∧ w = w' := by
  go_enter Try.func50, Try.ntmps50
  go_wp2
  go_ret
  exact ⟨by simp, rfl⟩
def cmpZ (x y : Int) : Int := if x < y then -1 else if y < x then 1 else 0
set_option maxHeartbeats 400000 in
theorem cmpc_any (x y : Int) (w : World) : Calls Try.prog 46 #[.int .u64 x, .int .u64 y] w fun e w' => e = .returned (.int .i64 (cmpZ x y)) ∧ w = w' := by
  by_cases h1 : x < y
  · have hf : cmpZ x y = -1 := by simp [cmpZ, h1]
    rw [hf]
    go_enter Try.func46, Try.ntmps46
    go_wp2_with (go_at_call 50; refine (isnan_any _ _).mono ?_; rintro e w1 ⟨rfl, rfl⟩)
    go_ret
    exact ⟨rfl, rfl⟩
  · by_cases h2 : y < x
    · have hf : cmpZ x y = 1 := by simp [cmpZ, h1, h2]
      rw [hf]
      go_enter Try.func46, Try.ntmps46
      go_wp2_with (go_at_call 50; refine (isnan_any _ _).mono ?_; rintro e w1 ⟨rfl, rfl⟩)
      go_ret
      exact ⟨rfl, rfl⟩
    · have hf : cmpZ x y = 0 := by simp [cmpZ, h1, h2]
      rw [hf]
      go_enter Try.func46, Try.ntmps46
      go_wp2_with (go_at_call 50; refine (isnan_any _ _).mono ?_; rintro e w1 ⟨rfl, rfl⟩)
      go_ret
      exact ⟨rfl, rfl⟩
end Go.Proofs.Ytibemleodghhfaa

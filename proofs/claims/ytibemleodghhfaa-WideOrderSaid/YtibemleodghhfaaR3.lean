/- Contracts of the reference of layer 4: sums, differences, comparison. -/
import Derived.Test.YtibemleodghhfaaWr1
import Derived.Test.YtibemleodghhfaaWd1
import Derived.Test.YtibemleodghhfaaR12
import Derived.Outline
namespace Go.Proofs.Ytibemleodghhfaa
open Go.RowKit
attribute [local go_sem ↓] Go.wp_at_zero Go.wp_at_succ
set_option maxHeartbeats 1000000 in
theorem rsub_no (n m : Nat) (hn : n < 256 ^ 32) (hm : m < 256 ^ 32) (h : n < m) (w : World) :
    Calls Try.prog 26 #[.agg #[.int .u64 (limb n 0), .int .u64 (limb n 1), .int .u64 (limb n 2), .int .u64 (limb n 3)], .agg #[.int .u64 (limb m 0), .int .u64 (limb m 1), .int .u64 (limb m 2), .int .u64 (limb m 3)]] w fun e w' =>
      e = .returned (.tuple #[.agg #[.int .u64 0, .int .u64 0, .int .u64 0, .int .u64 0], .bool false]) ∧ Below w.heap.size w w' := by
  have hr := rcompare_any n m hn hm
  rw [cmpI_lt h] at hr
  have Hr := Lib.hid hr
  clear hr hn hm h
  go_enter Try.func26, Try.ntmps26
  go_wp2_with fail
  refine (Hr.out _).mono ?_
  rintro e w1 ⟨rfl, hb1⟩
  have hB1 := bcell hb1
  have hz1'' : w.heap.size + 1 + 1 < w1.heap.size := by have := hb1.size; simp at this; omega
  have hr0 := (blk3 w _ _ _ _).below hb1 (by simp)
  have hB : Below w.heap.size w w1 := ((((Below.refl _ _).alloc (Nat.le_refl _) _).alloc (by simp) _).alloc (by simp; omega) _).trans (hb1.mono (by simp; omega))
  go_wp2_with fail
  have hcc := fun i => (hr0.store4 (.int .u64 0) (.int .u64 0) (.int .u64 0) (.int .u64 0)).cell i
  refine bodyPost_ret (v := .tuple #[.agg #[.int .u64 0, .int .u64 0, .int .u64 0, .int .u64 0], .bool false]) (by simp [results, Try.results26, go_sem, hcc]) rfl ⟨rfl, below_store4 hB (by omega) _ _ _ _⟩

set_option maxHeartbeats 1000000 in
theorem rsub_yes (n m : Nat) (hn : n < 256 ^ 32) (hm : m < 256 ^ 32) (h : m ≤ n) (w : World) :
    Calls Try.prog 26 #[.agg #[.int .u64 (limb n 0), .int .u64 (limb n 1), .int .u64 (limb n 2), .int .u64 (limb n 3)], .agg #[.int .u64 (limb m 0), .int .u64 (limb m 1), .int .u64 (limb m 2), .int .u64 (limb m 3)]] w fun e w' =>
      e = .returned (.tuple #[.agg #[.int .u64 (limb (n - m) 0), .int .u64 (limb (n - m) 1), .int .u64 (limb (n - m) 2), .int .u64 (limb (n - m) 3)], .bool true]) ∧ Below w.heap.size w w' := by
  obtain ⟨i0, hi0, hz0, hz1, hz2⟩ := info_parts infoInt
  have hr := rcompare_any n m hn hm
  have hcmp : (0 : Int) ≤ cmpI n m := by
    unfold cmpI; rw [if_neg (by omega)]; split <;> omega
  generalize cmpI n m = c at hr hcmp
  have Hr := Lib.hid hr
  have Hle := Lib.hid h
  have hnm : n - m < 256 ^ 32 := by omega
  have Hnm := Lib.hid hnm
  have Htop := Lib.hid (ow_top n m hn hm h)
  clear hr hn hm h hnm
  go_enter Try.func26, Try.ntmps26
  go_wp2_with fail
  refine (Hr.out _).mono ?_
  rintro e w0 ⟨rfl, hb0⟩
  have hB0 := bcell hb0
  have hz0'' : w.heap.size + 1 + 1 < w0.heap.size := by have := hb0.size; simp at this; omega
  have hz0''' : w.heap.size + 1 < w0.heap.size := by omega
  have hz0'''' : w.heap.size < w0.heap.size := by omega
  have hr0 := (blk3 w _ _ _ _).below hb0 (by simp)
  have hBx : Below w.heap.size w w0 := ((((Below.refl _ _).alloc (Nat.le_refl _) _).alloc (by simp) _).alloc (by simp; omega) _).trans (hb0.mono (by simp; omega))
  go_wp2_with fail
  refine (digits_any n _).mono ?_
  rintro e w1 ⟨g1, c1, rfl, hg1, hg1', hx, hb1⟩
  have hB1 := bcell hb1
  have hz1' : w.heap.size + 2 < w1.heap.size := by have := hb1.size; omega
  have hz1'' : w.heap.size + 1 < w1.heap.size := by omega
  have hz1''' : w.heap.size < w1.heap.size := by omega
  go_wp2_with fail
  refine (digits_any m _).mono ?_
  rintro e w2 ⟨g2, c2, rfl, hg2, hg2', hy, hb2⟩
  go_wp2_with fail
  have hx' : ∀ i, i < 32 → w2.cell? ⟨g1, i, none⟩ = some (.int .i64 (dig n i)) := fun i hi => (hb2.cell (p := ⟨g1, i, none⟩) hg1').trans (hx i hi)
  have hlt1 : g1 < w2.heap.size := by have := hb2.size; omega
  have hr := (hr0.below hb1 (by omega)).below hb2 (by omega)
  have hB : Below w.heap.size w w2 := hBx.trans ((hb1.mono (by omega)).trans (hb2.mono (by omega)))
  go_loopw [8, 9, 10] (fun v c i wr => ∃ k : Nat, k ≤ 32 ∧ i = .int .i64 k ∧ c = .int .i64 (ow n m k : Int) ∧ wr.ownsRow w2.heap.size 3 1 v k (digs (n - m) k) ∧ Below w2.heap.size w2 wr) (fun _ _ i _ => 32 - (intOf i).toNat)
  case atStart => exact ⟨0, by omega, rfl, by rw [ow_zero]; rfl, World.ownsRow_nil _ _ _ _, Below.refl _ _⟩
  case round =>
    obtain ⟨k, hk, rfl, rfl, hown, hb⟩ := hrel
    by_cases hlt : k < 32
    · have hxk := (hb.cell (p := ⟨g1, k, none⟩) hlt1).trans (hx' k hlt)
      have hyk := (hb.cell (p := ⟨g2, k, none⟩) hg2').trans (hy k hlt)
      have ⟨hs1, hs2⟩ := dig_diff n m k Hle.out
      have a0 := dig_lo n k
      have a1 := dig_hi n k
      have b0 := dig_lo m k
      have b1 := dig_hi m k
      have c0 : (0 : Int) ≤ (ow n m k : Int) := Int.natCast_nonneg _
      have c1 : (ow n m k : Int) ≤ 1 := by have := ow_le n m k; omega
      by_cases hneg : dig n k - dig m k - (ow n m k : Int) < 0
      · obtain ⟨e1, e2⟩ := hs1 hneg
        have E2 := Lib.hid e2
        clear hs1 hs2 e2
        go_wp2_with fail
        go_quiet (fail)
        go_wp2_with (at_builtin; refine wpList_push rfl _ _ 64 rfl w2.heap.size 3 i0 (.int .i64 0) 1 8 Try.underlying64 hi0 hz0 hz1 hz2 rfl (by decide) _ _ _ rfl (own_drewN hown nq) [.int .i64 (dig (n - m) k)] rfl rfl rfl (by unfold maxLen; omega) (by omega) hb.size ?_; intro v1 w3 hown1 hb3 hz3)
        rw [← digs_succ] at hown1
        go_roundw
        case rel => exact ⟨k + 1, by omega, by go_num, by rw [E2.out]; rfl, hown1, hb.trans (below_from_drewN hb3)⟩
        case measure => simp [intOf]; omega
      · obtain ⟨e1, e2⟩ := hs2 hneg
        have E2 := Lib.hid e2
        clear hs1 hs2 e2
        go_wp2_with fail
        go_quiet (fail)
        go_wp2_with (at_builtin; refine wpList_push rfl _ _ 64 rfl w2.heap.size 3 i0 (.int .i64 0) 1 8 Try.underlying64 hi0 hz0 hz1 hz2 rfl (by decide) _ _ _ rfl (own_drewN hown nq) [.int .i64 (dig (n - m) k)] rfl rfl rfl (by unfold maxLen; omega) (by omega) hb.size ?_; intro v1 w3 hown1 hb3 hz3)
        rw [← digs_succ] at hown1
        go_roundw
        case rel => exact ⟨k + 1, by omega, by go_num, by rw [E2.out]; rfl, hown1, hb.trans (below_from_drewN hb3)⟩
        case measure => simp [intOf]; omega
    · obtain rfl : k = 32 := by omega
      go_wp2_with fail
      rw [digs_ints] at hown
      have hv : vl (digl (n - m) 32) = n - m := by rw [vl_digl, Nat.mod_eq_of_lt Hnm.out]
      have hN : wN (vl (digl (n - m) 32)) = n - m := by rw [hv]; unfold wN; rw [if_pos Hnm.out]
      have hO : wOk (vl (digl (n - m) 32)) = true := by rw [hv]; unfold wOk; exact decide_eq_true Hnm.out
      refine (number_any _ _ _ _ _ hown (by omega) (by omega) (digl_lt _ _)).mono ?_
      rw [hN, hO]
      clear hN hO hv
      rintro e w4 ⟨rfl, hb4⟩
      have hb24 := hb.trans (hb4.mono (by have := hb.size; omega))
      have hr4 := hr.below hb24 (by omega)
      have hc2 := fun i => hr4.cell i
      have hf2 := fun i => hr4.free i
      go_wp2
      have hcc := fun i => (hr4.store4 (.int .u64 (limb (n - m) 0)) (.int .u64 (limb (n - m) 1)) (.int .u64 (limb (n - m) 2)) (.int .u64 (limb (n - m) 3))).cell i
      refine bodyPost_ret (v := .tuple #[.agg #[.int .u64 (limb (n - m) 0), .int .u64 (limb (n - m) 1), .int .u64 (limb (n - m) 2), .int .u64 (limb (n - m) 3)], .bool true]) (by simp [results, Try.results26, go_sem, hcc]) rfl ⟨rfl, ?_⟩
      exact below_store4 (hB.trans (hb24.mono hB.size)) (by omega) _ _ _ _
end Go.Proofs.Ytibemleodghhfaa

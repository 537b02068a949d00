/- R12, R3, P1 in one text. -/
import Derived.Test.YtpcdgljcpacpiaaGreatDoorMW
import Derived.Test.YtpcdgljcpacpiaaGreatDoorWd1
import Derived.Test.YtpcdgljcpacpiaaGreatDoorRows
import Derived.Test.YtpcdgljcpacpiaaGreatDoorKitA
import Derived.WalkKit
import Derived.WalkSpells
import Derived.WalkLawsBesides
import Derived.Deep.QuietTactic
import Derived.BigQuiet
import Derived.BigRegion
import Derived.Deep.DrawnRows
set_option maxRecDepth 20000
namespace Go.Proofs.YtpcdgljcpacpiaaGreatDoor
open Go.RowKit
attribute [local go_sem ↓] Go.wp_at_zero Go.wp_at_succ
set_option maxHeartbeats 1000000 in
theorem radd_any (n m : Nat) (hn : n < 256 ^ 32) (hm : m < 256 ^ 32) (w : World) :
    Calls Tryz.prog 22 #[.agg #[.int .u64 (limb n 0), .int .u64 (limb n 1), .int .u64 (limb n 2), .int .u64 (limb n 3)], .agg #[.int .u64 (limb m 0), .int .u64 (limb m 1), .int .u64 (limb m 2), .int .u64 (limb m 3)]] w fun e w' =>
      e = .returned (.tuple #[.agg #[.int .u64 (limb (wN (n + m)) 0), .int .u64 (limb (wN (n + m)) 1), .int .u64 (limb (wN (n + m)) 2), .int .u64 (limb (wN (n + m)) 3)], .bool (wOk (n + m))]) ∧ Below w.heap.size w w' := by
  obtain ⟨i0, hi0, hz0, hz1, hz2⟩ := info_parts infoInt
  have Hn := Lib.hid hn
  have Hm := Lib.hid hm
  clear hn hm
  go_enter Tryz.func22, Tryz.ntmps22
  go_wp2_with fail
  refine (digits_any n _).mono ?_
  rintro e w1 ⟨g1, c1, rfl, hg1, hg1', hx, hb1⟩
  have hB1 := bcell hb1
  have hz1' : w.heap.size + 2 < w1.heap.size := by have := hb1.size; simp at this; omega
  have hz1'' : w.heap.size + 1 < w1.heap.size := by omega
  have hz1''' : w.heap.size < w1.heap.size := by omega
  go_wp2_with fail
  refine (digits_any m _).mono ?_
  rintro e w2 ⟨g2, c2, rfl, hg2, hg2', hy, hb2⟩
  go_wp2_with fail
  have hx' : ∀ i, i < 32 → w2.cell? ⟨g1, i, none⟩ = some (.int .i64 (dig n i)) := fun i hi => (hb2.cell (p := ⟨g1, i, none⟩) hg1').trans (hx i hi)
  have hlt1 : g1 < w2.heap.size := by have := hb2.size; omega
  have hr : Blk w2 (w.heap.size + 2) 31 (wcells 0) := by
    have h0 : Blk (((w.alloc (.cells (wcells n) 31)).alloc (.cells (wcells m) 31)).alloc (.cells (wcells 0) 31)) (w.heap.size + 2) 31 (wcells 0) := by
      have := Blk.new ((w.alloc (.cells (wcells n) 31)).alloc (.cells (wcells m) 31)) 31 (wcells 0)
      simpa using this
    rw [w0] at h0 ⊢
    exact (h0.below hb1 (by simp)).below hb2 (by omega)
  have hB : Below w.heap.size w w2 := ((((Below.refl _ _).alloc (Nat.le_refl _) _).alloc (by simp) _).alloc (by simp; omega) _).trans ((hb1.mono (by simp; omega)).trans (hb2.mono (by omega)))
  go_loopw [8, 9, 10] (fun v c i wr => ∃ k : Nat, k ≤ 32 ∧ i = .int .i64 k ∧ c = .int .i64 (cy n m k : Int) ∧ wr.ownsRow w2.heap.size 3 1 v k (digs (n + m) k) ∧ Below w2.heap.size w2 wr) (fun _ _ i _ => 32 - (intOf i).toNat)
  case atStart => exact ⟨0, by omega, rfl, by rw [cy_zero]; rfl, World.ownsRow_nil _ _ _ _, Below.refl _ _⟩
  case round =>
    obtain ⟨k, hk, rfl, rfl, hown, hb⟩ := hrel
    by_cases hlt : k < 32
    · have hxk := (hb.cell (p := ⟨g1, k, none⟩) hlt1).trans (hx' k hlt)
      have hyk := (hb.cell (p := ⟨g2, k, none⟩) hg2').trans (hy k hlt)
      have ⟨hs1, hs2⟩ := dig_sum n m k
      have a0 := dig_lo n k
      have a1 := dig_hi n k
      have b0 := dig_lo m k
      have b1 := dig_hi m k
      have c0 : (0 : Int) ≤ (cy n m k : Int) := Int.natCast_nonneg _
      have c1 : (cy n m k : Int) ≤ 1 := by have := cy_le n m k; omega
      go_wp2_with fail
      go_quiet (fail)
      go_wp2_with (at_builtin; go_must (refine wpList_push rfl _ _ 49 rfl w2.heap.size 3 i0 (.int .i64 0) 1 8 Tryz.underlying49 hi0 hz0 hz1 hz2 rfl (by decide) _ _ _ rfl (own_drewN hown nq) [.int .i64 (dig (n + m) k)] rfl rfl rfl (by unfold maxLen; omega) (by omega) hb.size ?_); intro v1 w3 hown1 hb3 hz3)
      rw [← digs_succ] at hown1
      go_roundw
      case rel => exact ⟨k + 1, by omega, by go_num, by rw [hs2], hown1, hb.trans (below_from_drewN hb3)⟩
      case measure => simp [intOf]; omega
    · obtain rfl : k = 32 := by omega
      have hc0 : (cy n m 32 : Int) = ((cy n m 32 : Nat) : Int) := rfl
      go_wp2_with (at_builtin; refine wpList_push rfl _ _ 49 rfl w2.heap.size 3 i0 (.int .i64 0) 1 8 Tryz.underlying49 hi0 hz0 hz1 hz2 rfl (by decide) _ _ _ rfl hown [.int .i64 (cy n m 32 : Int)] rfl rfl rfl (by unfold maxLen; omega) (by omega) hb.size ?_; intro v1 w3 hown1 hb3 hz3)
      go_wp2_with fail
      have he : digs (n + m) 32 ++ [Value.int .i64 (cy n m 32 : Int)] = ints (digl (n + m) 32 ++ [cy n m 32]) := by rw [ints_snoc, digs_ints]
      rw [he] at hown1
      refine (number_any _ _ _ _ _ hown1 (by omega) (by omega) ?_).mono ?_
      · intro d hd
        simp at hd
        rcases hd with hd | rfl
        · exact digl_lt _ _ _ hd
        · have := cy_le n m 32; omega
      rw [vl_sum n m Hn.out Hm.out]
      rintro e w4 ⟨rfl, hb4⟩
      have hb24 := (hb.trans hb3).trans (hb4.mono (by have := hb3.size; have := hb.size; omega))
      have hr4 := hr.below hb24 (by omega)
      have hc2 := fun i => hr4.cell i
      have hf2 := fun i => hr4.free i
      rw [w0] at hc2
      go_wp2
      have hr5 := (((hr4.set_ 0 (.int .u64 (limb (wN (n + m)) 0))).set_ 1 (.int .u64 (limb (wN (n + m)) 1))).set_ 2 (.int .u64 (limb (wN (n + m)) 2))).set_ 3 (.int .u64 (limb (wN (n + m)) 3))
      have hcc := fun i => hr5.cell i
      refine bodyPost_ret (v := .tuple #[.agg #[.int .u64 (limb (wN (n + m)) 0), .int .u64 (limb (wN (n + m)) 1), .int .u64 (limb (wN (n + m)) 2), .int .u64 (limb (wN (n + m)) 3)], .bool (wOk (n + m))]) (by simp [results, Tryz.results22, go_sem, hcc, w0]) rfl ⟨rfl, ?_⟩
      exact ((((hB.trans (hb24.mono hB.size)).setCell (by simp; omega) _).setCell (by simp; omega) _).setCell (by simp; omega) _).setCell (by simp; omega) _
set_option maxHeartbeats 1000000 in
theorem rcompare_any (n m : Nat) (hn : n < 256 ^ 32) (hm : m < 256 ^ 32) (w : World) :
    Calls Tryz.prog 52 #[.agg #[.int .u64 (limb n 0), .int .u64 (limb n 1), .int .u64 (limb n 2), .int .u64 (limb n 3)], .agg #[.int .u64 (limb m 0), .int .u64 (limb m 1), .int .u64 (limb m 2), .int .u64 (limb m 3)]] w fun e w' =>
      e = .returned (.int .i64 (cmpI n m)) ∧ Below w.heap.size w w' := by
  have Hn := Lib.hid hn
  have Hm := Lib.hid hm
  clear hn hm
  go_enter Tryz.func52, Tryz.ntmps52
  go_wp2_with fail
  refine (digits_any n _).mono ?_
  rintro e w1 ⟨g1, c1, rfl, hg1, hg1', hx, hb1⟩
  have hB1 := bcell hb1
  have hz1'' : w.heap.size + 1 < w1.heap.size := by have := hb1.size; simp at this; omega
  have hz1''' : w.heap.size < w1.heap.size := by omega
  go_wp2_with fail
  refine (digits_any m _).mono ?_
  rintro e w2 ⟨g2, c2, rfl, hg2, hg2', hy, hb2⟩
  go_wp2_with fail
  have hx' : ∀ i, i < 32 → w2.cell? ⟨g1, i, none⟩ = some (.int .i64 (dig n i)) := fun i hi => (hb2.cell (p := ⟨g1, i, none⟩) hg1').trans (hx i hi)
  have hlt1 : g1 < w2.heap.size := by have := hb2.size; omega
  have hB : Below w.heap.size w w2 := (((Below.refl _ _).alloc (Nat.le_refl _) _).alloc (by simp) _).trans ((hb1.mono (by simp; omega)).trans (hb2.mono (by omega)))
  go_loopw [7] (fun i wr => ∃ k : Nat, k ≤ 32 ∧ i = .int .i64 ((k : Int) - 1) ∧ Hid (n / 256 ^ k = m / 256 ^ k) ∧ Below w2.heap.size w2 wr) (fun i _ => (intOf i + 1).toNat)
  case atStart => exact ⟨32, by omega, rfl, by show _ = _; rw [Nat.div_eq_of_lt Hn.out, Nat.div_eq_of_lt Hm.out], Below.refl _ _⟩
  case round =>
    obtain ⟨k, hk, rfl, heq, hb⟩ := hrel
    by_cases hlt : 0 < k
    · obtain ⟨j, rfl⟩ : ∃ j, k = j + 1 := ⟨k - 1, by omega⟩
      have hxk := (hb.cell (p := ⟨g1, j, none⟩) hlt1).trans (hx' j (by omega))
      have hyk := (hb.cell (p := ⟨g2, j, none⟩) hg2').trans (hy j (by omega))
      have hj : (j : Int) < 32 := by omega
      have hj0 : (0 : Int) ≤ (j : Int) := by omega
      rw [show ((j + 1 : Nat) : Int) - 1 = (j : Int) from by omega]
      by_cases h1 : dig n j < dig m j
      · have hres := Lib.hid (cmpI_lt (cmp_lt heq.out h1))
        go_wp2_with fail
        go_quiet (fail)
        go_wp2_with fail
        go_ret
        exact ⟨by rw [hres.out]; rfl, hB.trans ((below_drewN hb _).mono (by have := hb2.size; omega))⟩
      · have h1' : decide (dig n j < dig m j) = false := by simpa using h1
        by_cases h2 : dig m j < dig n j
        · have hres := Lib.hid (cmpI_gt (cmp_lt heq.out.symm h2))
          go_wp2_with fail
          go_quiet (fail)
          go_wp2_with fail
          go_quiet (fail)
          go_wp2_with fail
          go_ret
          exact ⟨by rw [hres.out]; rfl, hB.trans ((below_drewN (below_drewN hb _) _).mono (by have := hb2.size; omega))⟩
        · have h2' : decide (dig m j < dig n j) = false := by simpa using h2
          have heq' := Lib.hid (cmp_eq heq.out h1 h2)
          go_wp2_with fail
          go_quiet (fail)
          go_wp2_with fail
          go_quiet (fail)
          go_wp2_with fail
          go_roundw
          case rel => exact ⟨j, by omega, rfl, heq', below_drewN hb _⟩
          case measure => simp [intOf]
    · obtain rfl : k = 0 := by omega
      have hres : cmpI n m = 0 := cmpI_eq (by have := heq.out; simpa using this)
      rw [show ((0 : Nat) : Int) - 1 = -1 from by omega]
      go_wp2_with fail
      go_ret
      exact ⟨by rw [hres]; rfl, hB.trans (hb.mono (by have := hb2.size; omega))⟩
end Go.Proofs.YtpcdgljcpacpiaaGreatDoor
namespace Go.Proofs.YtpcdgljcpacpiaaGreatDoor
open Go.RowKit
attribute [local go_sem ↓] Go.wp_at_zero Go.wp_at_succ
set_option maxHeartbeats 1000000 in
theorem rsub_no (n m : Nat) (hn : n < 256 ^ 32) (hm : m < 256 ^ 32) (h : n < m) (w : World) :
    Calls Tryz.prog 23 #[.agg #[.int .u64 (limb n 0), .int .u64 (limb n 1), .int .u64 (limb n 2), .int .u64 (limb n 3)], .agg #[.int .u64 (limb m 0), .int .u64 (limb m 1), .int .u64 (limb m 2), .int .u64 (limb m 3)]] w fun e w' =>
      e = .returned (.tuple #[.agg #[.int .u64 0, .int .u64 0, .int .u64 0, .int .u64 0], .bool false]) ∧ Below w.heap.size w w' := by
  have hr := rcompare_any n m hn hm
  rw [cmpI_lt h] at hr
  have Hr := Lib.hid hr
  clear hr hn hm h
  go_enter Tryz.func23, Tryz.ntmps23
  go_wp2_with fail
  refine (Hr.out _).mono ?_
  rintro e w1 ⟨rfl, hb1⟩
  have hB1 := bcell hb1
  have hz1'' : w.heap.size + 1 + 1 < w1.heap.size := by have := hb1.size; simp at this; omega
  have hr0 := (blk3 w _ _ _ _).below hb1 (by simp)
  have hB : Below w.heap.size w w1 := ((((Below.refl _ _).alloc (Nat.le_refl _) _).alloc (by simp) _).alloc (by simp; omega) _).trans (hb1.mono (by simp; omega))
  go_wp2_with fail
  have hcc := fun i => (hr0.store4 (.int .u64 0) (.int .u64 0) (.int .u64 0) (.int .u64 0)).cell i
  refine bodyPost_ret (v := .tuple #[.agg #[.int .u64 0, .int .u64 0, .int .u64 0, .int .u64 0], .bool false]) (by simp [results, Tryz.results23, go_sem, hcc]) rfl ⟨rfl, below_store4 hB (by omega) _ _ _ _⟩

set_option maxHeartbeats 1000000 in
theorem rsub_yes (n m : Nat) (hn : n < 256 ^ 32) (hm : m < 256 ^ 32) (h : m ≤ n) (w : World) :
    Calls Tryz.prog 23 #[.agg #[.int .u64 (limb n 0), .int .u64 (limb n 1), .int .u64 (limb n 2), .int .u64 (limb n 3)], .agg #[.int .u64 (limb m 0), .int .u64 (limb m 1), .int .u64 (limb m 2), .int .u64 (limb m 3)]] w fun e w' =>
      e = .returned (.tuple #[.agg #[.int .u64 (limb (n - m) 0), .int .u64 (limb (n - m) 1), .int .u64 (limb (n - m) 2), .int .u64 (limb (n - m) 3)], .bool true]) ∧ Below w.heap.size w w' := by
  obtain ⟨i0, hi0, hz0, hz1, hz2⟩ := info_parts infoInt
  have hr := rcompare_any n m hn hm
  have hcmp : (0 : Int) ≤ cmpI n m := by
    unfold cmpI; rw [if_neg (by omega)]; split <;> omega
  generalize cmpI n m = c at hr hcmp
  have Hr := Lib.hid hr
  have Hle := Lib.hid h
  have hnm : n - m < 256 ^ 32 := by omega
  have Hnm := Lib.hid hnm
  have Htop := Lib.hid (ow_top n m hn hm h)
  clear hr hn hm h hnm
  go_enter Tryz.func23, Tryz.ntmps23
  go_wp2_with fail
  refine (Hr.out _).mono ?_
  rintro e w0 ⟨rfl, hb0⟩
  have hB0 := bcell hb0
  have hz0'' : w.heap.size + 1 + 1 < w0.heap.size := by have := hb0.size; simp at this; omega
  have hz0''' : w.heap.size + 1 < w0.heap.size := by omega
  have hz0'''' : w.heap.size < w0.heap.size := by omega
  have hr0 := (blk3 w _ _ _ _).below hb0 (by simp)
  have hBx : Below w.heap.size w w0 := ((((Below.refl _ _).alloc (Nat.le_refl _) _).alloc (by simp) _).alloc (by simp; omega) _).trans (hb0.mono (by simp; omega))
  go_wp2_with fail
  refine (digits_any n _).mono ?_
  rintro e w1 ⟨g1, c1, rfl, hg1, hg1', hx, hb1⟩
  have hB1 := bcell hb1
  have hz1' : w.heap.size + 2 < w1.heap.size := by have := hb1.size; omega
  have hz1'' : w.heap.size + 1 < w1.heap.size := by omega
  have hz1''' : w.heap.size < w1.heap.size := by omega
  go_wp2_with fail
  refine (digits_any m _).mono ?_
  rintro e w2 ⟨g2, c2, rfl, hg2, hg2', hy, hb2⟩
  go_wp2_with fail
  have hx' : ∀ i, i < 32 → w2.cell? ⟨g1, i, none⟩ = some (.int .i64 (dig n i)) := fun i hi => (hb2.cell (p := ⟨g1, i, none⟩) hg1').trans (hx i hi)
  have hlt1 : g1 < w2.heap.size := by have := hb2.size; omega
  have hr := (hr0.below hb1 (by omega)).below hb2 (by omega)
  have hB : Below w.heap.size w w2 := hBx.trans ((hb1.mono (by omega)).trans (hb2.mono (by omega)))
  go_loopw [8, 9, 10] (fun v c i wr => ∃ k : Nat, k ≤ 32 ∧ i = .int .i64 k ∧ c = .int .i64 (ow n m k : Int) ∧ wr.ownsRow w2.heap.size 3 1 v k (digs (n - m) k) ∧ Below w2.heap.size w2 wr) (fun _ _ i _ => 32 - (intOf i).toNat)
  case atStart => exact ⟨0, by omega, rfl, by rw [ow_zero]; rfl, World.ownsRow_nil _ _ _ _, Below.refl _ _⟩
  case round =>
    obtain ⟨k, hk, rfl, rfl, hown, hb⟩ := hrel
    by_cases hlt : k < 32
    · have hxk := (hb.cell (p := ⟨g1, k, none⟩) hlt1).trans (hx' k hlt)
      have hyk := (hb.cell (p := ⟨g2, k, none⟩) hg2').trans (hy k hlt)
      have ⟨hs1, hs2⟩ := dig_diff n m k Hle.out
      have a0 := dig_lo n k
      have a1 := dig_hi n k
      have b0 := dig_lo m k
      have b1 := dig_hi m k
      have c0 : (0 : Int) ≤ (ow n m k : Int) := Int.natCast_nonneg _
      have c1 : (ow n m k : Int) ≤ 1 := by have := ow_le n m k; omega
      by_cases hneg : dig n k - dig m k - (ow n m k : Int) < 0
      · obtain ⟨e1, e2⟩ := hs1 hneg
        have E2 := Lib.hid e2
        clear hs1 hs2 e2
        go_wp2_with fail
        go_quiet (fail)
        go_wp2_with (at_builtin; refine wpList_push rfl _ _ 49 rfl w2.heap.size 3 i0 (.int .i64 0) 1 8 Tryz.underlying49 hi0 hz0 hz1 hz2 rfl (by decide) _ _ _ rfl (own_drewN hown nq) [.int .i64 (dig (n - m) k)] rfl rfl rfl (by unfold maxLen; omega) (by omega) hb.size ?_; intro v1 w3 hown1 hb3 hz3)
        rw [← digs_succ] at hown1
        go_roundw
        case rel => exact ⟨k + 1, by omega, by go_num, by rw [E2.out]; rfl, hown1, hb.trans (below_from_drewN hb3)⟩
        case measure => simp [intOf]; omega
      · obtain ⟨e1, e2⟩ := hs2 hneg
        have E2 := Lib.hid e2
        clear hs1 hs2 e2
        go_wp2_with fail
        go_quiet (fail)
        go_wp2_with (at_builtin; refine wpList_push rfl _ _ 49 rfl w2.heap.size 3 i0 (.int .i64 0) 1 8 Tryz.underlying49 hi0 hz0 hz1 hz2 rfl (by decide) _ _ _ rfl (own_drewN hown nq) [.int .i64 (dig (n - m) k)] rfl rfl rfl (by unfold maxLen; omega) (by omega) hb.size ?_; intro v1 w3 hown1 hb3 hz3)
        rw [← digs_succ] at hown1
        go_roundw
        case rel => exact ⟨k + 1, by omega, by go_num, by rw [E2.out]; rfl, hown1, hb.trans (below_from_drewN hb3)⟩
        case measure => simp [intOf]; omega
    · obtain rfl : k = 32 := by omega
      go_wp2_with fail
      rw [digs_ints] at hown
      have hv : vl (digl (n - m) 32) = n - m := by rw [vl_digl, Nat.mod_eq_of_lt Hnm.out]
      have hN : wN (vl (digl (n - m) 32)) = n - m := by rw [hv]; unfold wN; rw [if_pos Hnm.out]
      have hO : wOk (vl (digl (n - m) 32)) = true := by rw [hv]; unfold wOk; exact decide_eq_true Hnm.out
      refine (number_any _ _ _ _ _ hown (by omega) (by omega) (digl_lt _ _)).mono ?_
      rw [hN, hO]
      clear hN hO hv
      rintro e w4 ⟨rfl, hb4⟩
      have hb24 := hb.trans (hb4.mono (by have := hb.size; omega))
      have hr4 := hr.below hb24 (by omega)
      have hc2 := fun i => hr4.cell i
      have hf2 := fun i => hr4.free i
      go_wp2
      have hcc := fun i => (hr4.store4 (.int .u64 (limb (n - m) 0)) (.int .u64 (limb (n - m) 1)) (.int .u64 (limb (n - m) 2)) (.int .u64 (limb (n - m) 3))).cell i
      refine bodyPost_ret (v := .tuple #[.agg #[.int .u64 (limb (n - m) 0), .int .u64 (limb (n - m) 1), .int .u64 (limb (n - m) 2), .int .u64 (limb (n - m) 3)], .bool true]) (by simp [results, Tryz.results23, go_sem, hcc]) rfl ⟨rfl, ?_⟩
      exact below_store4 (hB.trans (hb24.mono hB.size)) (by omega) _ _ _ _
end Go.Proofs.YtpcdgljcpacpiaaGreatDoor
namespace Go.Proofs.YtpcdgljcpacpiaaGreatDoor
open Go.RowKit
attribute [local go_sem ↓] Go.wp_at_zero Go.wp_at_succ
theorem run_cf_add64 (args : Array Value) (w : World) : (callFunc 118 args).run Tryz.prog w = ((add64Entry args).run Tryz.prog w).andThen fun v w' => .ok (.value v) w' :=
  run_callFunc_extern Tryz.func118 (by kernel_rfl) (by kernel_rfl) (by kernel_rfl) (by kernel_rfl) args w
theorem run_cf_sub64 (args : Array Value) (w : World) : (callFunc 108 args).run Tryz.prog w = ((sub64Entry args).run Tryz.prog w).andThen fun v w' => .ok (.value v) w' :=
  run_callFunc_extern Tryz.func108 (by kernel_rfl) (by kernel_rfl) (by kernel_rfl) (by kernel_rfl) args w
theorem cf_add64 (n m k : Nat) (w : World) :
    (callFunc 118 #[.int .u64 (limb n k), .int .u64 (limb m k), .int .u64 (cyL n m k : Int)]).run Tryz.prog w = .ok (.value (.tuple #[.int .u64 (limb (n + m) k), .int .u64 (cyL n m (k + 1) : Int)])) w := by
  have h := limb_sum n m k
  have hc := cyL_le n m k
  rw [run_cf_add64, run_add64 _ _ _ (Lim.limb n k).1 (Lim.limb m k).1 (Int.natCast_nonneg _) (by omega), h.1, h.2]; rfl
theorem cf_add64_0 (n m : Nat) (w : World) :
    (callFunc 118 #[.int .u64 (limb n 0), .int .u64 (limb m 0), .int .u64 0]).run Tryz.prog w = .ok (.value (.tuple #[.int .u64 (limb (n + m) 0), .int .u64 (cyL n m 1 : Int)])) w := by
  have h := cf_add64 n m 0 w
  rw [show cyL n m 0 = 0 from cyB_zero _ _ _] at h
  exact h
theorem cf_sub64 (n m k : Nat) (w : World) :
    (callFunc 108 #[.int .u64 (limb n k), .int .u64 (limb m k), .int .u64 (owL n m k : Int)]).run Tryz.prog w = .ok (.value (.tuple #[.int .u64 (subL n m k), .int .u64 (owL n m (k + 1) : Int)])) w := by
  have hc := owL_le n m k
  have e := owL_step n m k
  have h := run_sub64 (P := Tryz.prog) (n / 18446744073709551616 ^ k % 18446744073709551616) (m / 18446744073709551616 ^ k % 18446744073709551616) (owL n m k) (Nat.mod_lt _ (by decide)) hc w
  have e2 : (if n / 18446744073709551616 ^ k % 18446744073709551616 < m / 18446744073709551616 ^ k % 18446744073709551616 + owL n m k then (1 : Int) else 0) = (owL n m (k + 1) : Int) := by rw [e]; split <;> rfl
  rw [e2] at h
  rw [run_cf_sub64]
  show ((sub64Entry #[.int .u64 ((n / 18446744073709551616 ^ k % 18446744073709551616 : Nat) : Int), .int .u64 ((m / 18446744073709551616 ^ k % 18446744073709551616 : Nat) : Int), .int .u64 (owL n m k : Int)]).run Tryz.prog w).andThen _ = _
  rw [h]
  rfl
theorem cf_sub64_0 (n m : Nat) (w : World) :
    (callFunc 108 #[.int .u64 (limb n 0), .int .u64 (limb m 0), .int .u64 0]).run Tryz.prog w = .ok (.value (.tuple #[.int .u64 (subL n m 0), .int .u64 (owL n m 1 : Int)])) w := by
  have h := cf_sub64 n m 0 w
  rw [show owL n m 0 = 0 from owL_zero _ _] at h
  exact h
attribute [local go_sem] cf_add64 cf_add64_0 cf_sub64 cf_sub64_0

set_option maxHeartbeats 400000 in
theorem right_yes (a b c d : Int) (w : World) :
    Calls Tryz.prog 109 #[.agg #[.int .u64 a, .int .u64 b, .int .u64 c, .int .u64 d], .int .u64 0] w fun e w' => e = .returned (.tuple #[.agg #[.int .u64 a, .int .u64 b, .int .u64 c, .int .u64 d], .bool true]) ∧ Below w.heap.size w w' := by
  go_enter Tryz.func109, Tryz.ntmps109
  go_wp2
  refine bodyPost_ret (v := .tuple #[.agg #[.int .u64 a, .int .u64 b, .int .u64 c, .int .u64 d], .bool true]) (by simp [results, Tryz.results109, go_sem]) rfl ⟨rfl, ((Below.refl _ _).alloc (Nat.le_refl _) _).alloc (by simp) _⟩
set_option maxHeartbeats 400000 in
theorem right_no (a b c d n : Int) (hn : (n != 0) = true) (w : World) :
    Calls Tryz.prog 109 #[.agg #[.int .u64 a, .int .u64 b, .int .u64 c, .int .u64 d], .int .u64 n] w fun e w' => e = .returned (.tuple #[.agg #[.int .u64 0, .int .u64 0, .int .u64 0, .int .u64 0], .bool false]) ∧ Below w.heap.size w w' := by
  go_enter Tryz.func109, Tryz.ntmps109
  go_wp2
  refine bodyPost_ret (v := .tuple #[.agg #[.int .u64 0, .int .u64 0, .int .u64 0, .int .u64 0], .bool false]) (by simp [results, Tryz.results109, go_sem]) rfl ⟨rfl, ((Below.refl _ _).alloc (Nat.le_refl _) _).alloc (by simp) _⟩
theorem w0' : limb 0 0 = 0 ∧ limb 0 1 = 0 ∧ limb 0 2 = 0 ∧ limb 0 3 = 0 := by simp [limb]
/-- What 'right' makes of the limbs of a sum and its last carry. -/
theorem right_any (X c : Nat) (a0 a1 a2 a3 : Int) (hc : (c = 0 ∧ a0 = limb X 0 ∧ a1 = limb X 1 ∧ a2 = limb X 2 ∧ a3 = limb X 3 ∧ X < 256 ^ 32) ∨ (0 < c ∧ ¬ X < 256 ^ 32)) (w : World) :
    Calls Tryz.prog 109 #[.agg #[.int .u64 a0, .int .u64 a1, .int .u64 a2, .int .u64 a3], .int .u64 (c : Int)] w fun e w' =>
      e = .returned (.tuple #[.agg #[.int .u64 (limb (wN X) 0), .int .u64 (limb (wN X) 1), .int .u64 (limb (wN X) 2), .int .u64 (limb (wN X) 3)], .bool (wOk X)]) ∧ Below w.heap.size w w' := by
  rcases hc with ⟨rfl, rfl, rfl, rfl, rfl, h⟩ | ⟨h0, h⟩
  · have e1 : wN X = X := by unfold wN; rw [if_pos h]
    have e2 : wOk X = true := decide_eq_true h
    rw [e1, e2]
    exact right_yes _ _ _ _ w
  · have e1 : wN X = 0 := by unfold wN; rw [if_neg h]
    have e2 : wOk X = false := decide_eq_false h
    rw [e1, e2, w0'.1, w0'.2.1, w0'.2.2.1, w0'.2.2.2]
    exact right_no _ _ _ _ _ (by simp; omega) w

set_option maxHeartbeats 1000000 in
theorem add_any (n m : Nat) (hn : n < 256 ^ 32) (hm : m < 256 ^ 32) (w : World) :
    Calls Tryz.prog 99 #[.agg #[.int .u64 (limb n 0), .int .u64 (limb n 1), .int .u64 (limb n 2), .int .u64 (limb n 3)], .agg #[.int .u64 (limb m 0), .int .u64 (limb m 1), .int .u64 (limb m 2), .int .u64 (limb m 3)]] w fun e w' =>
      e = .returned (.tuple #[.agg #[.int .u64 (limb (wN (n + m)) 0), .int .u64 (limb (wN (n + m)) 1), .int .u64 (limb (wN (n + m)) 2), .int .u64 (limb (wN (n + m)) 3)], .bool (wOk (n + m))]) ∧ Below w.heap.size w w' := by
  have Hr := Lib.hid (fun w => right_any (n + m) (cyL n m 4) (limb (n + m) 0) (limb (n + m) 1) (limb (n + m) 2) (limb (n + m) 3) (by
    rw [cyL_top n m hn hm]
    rcases Nat.lt_or_ge (n + m) (256 ^ 32) with h | h
    · exact .inl ⟨Nat.div_eq_of_lt h, rfl, rfl, rfl, rfl, h⟩
    · exact .inr ⟨Nat.div_pos h (by decide), by omega⟩) w)
  clear hn hm
  go_enter Tryz.func99, Tryz.ntmps99
  go_wp2
  refine wp_loop_rounds 5 ?_
  rw [rounds_succ]
  go_wp2_with fail
  go_region
  go_wp2_with fail
  rw [rounds_succ]
  go_wp2_with fail
  go_region
  go_wp2_with fail
  rw [rounds_succ]
  go_wp2_with fail
  go_region
  go_wp2_with fail
  rw [rounds_succ]
  go_wp2_with fail
  go_region
  go_wp2_with fail
  rw [rounds_succ]
  go_wp2_with fail
  refine (Hr.out _).mono ?_
  rintro e w1 ⟨rfl, hb1⟩
  have hr0 := (blk3 w _ _ _ _).drew.drew.drew.drew.below hb1 (by simp)
  have hB : Below w.heap.size w w1 := (((((((Below.refl _ _).alloc (Nat.le_refl _) _).alloc (by simp) _).alloc (by simp; omega) _).drew).drew).drew).drew.trans (hb1.mono (by simp; omega))
  have hc2 := fun i => hr0.cell i
  have hf2 := fun i => hr0.free i
  go_wp2
  have hcc := fun i => (hr0.store4 (.int .u64 (limb (wN (n + m)) 0)) (.int .u64 (limb (wN (n + m)) 1)) (.int .u64 (limb (wN (n + m)) 2)) (.int .u64 (limb (wN (n + m)) 3))).cell i
  refine bodyPost_ret (v := .tuple #[.agg #[.int .u64 (limb (wN (n + m)) 0), .int .u64 (limb (wN (n + m)) 1), .int .u64 (limb (wN (n + m)) 2), .int .u64 (limb (wN (n + m)) 3)], .bool (wOk (n + m))]) (by simp [results, Tryz.results99, go_sem, hcc]) rfl ⟨rfl, below_store4 hB (by omega) _ _ _ _⟩

set_option maxHeartbeats 1000000 in
theorem sub_yes (n m : Nat) (hn : n < 256 ^ 32) (hm : m < 256 ^ 32) (h : m ≤ n) (w : World) :
    Calls Tryz.prog 92 #[.agg #[.int .u64 (limb n 0), .int .u64 (limb n 1), .int .u64 (limb n 2), .int .u64 (limb n 3)], .agg #[.int .u64 (limb m 0), .int .u64 (limb m 1), .int .u64 (limb m 2), .int .u64 (limb m 3)]] w fun e w' =>
      e = .returned (.tuple #[.agg #[.int .u64 (limb (n - m) 0), .int .u64 (limb (n - m) 1), .int .u64 (limb (n - m) 2), .int .u64 (limb (n - m) 3)], .bool true]) ∧ Below w.heap.size w w' := by
  have Hr := Lib.hid (fun w => right_yes (subL n m 0) (subL n m 1) (subL n m 2) (subL n m 3) w)
  have e4 : (owL n m 4 : Int) = 0 := by rw [owL_top n m hn hm, if_neg (by omega)]; rfl
  have s0 := subL_eq n m 0 h
  have s1 := subL_eq n m 1 h
  have s2 := subL_eq n m 2 h
  have s3 := subL_eq n m 3 h
  rw [s0, s1, s2, s3] at Hr
  clear hn hm h
  go_enter Tryz.func92, Tryz.ntmps92
  go_wp2
  refine wp_loop_rounds 5 ?_
  rw [rounds_succ]
  go_wp2_with fail
  go_region
  go_wp2_with fail
  rw [rounds_succ]
  go_wp2_with fail
  go_region
  go_wp2_with fail
  rw [rounds_succ]
  go_wp2_with fail
  go_region
  go_wp2_with fail
  rw [rounds_succ]
  go_wp2_with fail
  go_region
  go_wp2_with fail
  rw [rounds_succ]
  go_wp2_with fail
  refine (Hr.out _).mono ?_
  rintro e w1 ⟨rfl, hb1⟩
  have hr0 := (blk3 w _ _ _ _).drew.drew.drew.drew.below hb1 (by simp)
  have hB : Below w.heap.size w w1 := (((((((Below.refl _ _).alloc (Nat.le_refl _) _).alloc (by simp) _).alloc (by simp; omega) _).drew).drew).drew).drew.trans (hb1.mono (by simp; omega))
  have hc2 := fun i => hr0.cell i
  have hf2 := fun i => hr0.free i
  go_wp2
  have hcc := fun i => (hr0.store4 (.int .u64 (limb (n - m) 0)) (.int .u64 (limb (n - m) 1)) (.int .u64 (limb (n - m) 2)) (.int .u64 (limb (n - m) 3))).cell i
  refine bodyPost_ret (v := .tuple #[.agg #[.int .u64 (limb (n - m) 0), .int .u64 (limb (n - m) 1), .int .u64 (limb (n - m) 2), .int .u64 (limb (n - m) 3)], .bool true]) (by simp [results, Tryz.results92, go_sem, hcc]) rfl ⟨rfl, below_store4 hB (by omega) _ _ _ _⟩

set_option maxHeartbeats 1000000 in
theorem sub_no (n m : Nat) (hn : n < 256 ^ 32) (hm : m < 256 ^ 32) (h : n < m) (w : World) :
    Calls Tryz.prog 92 #[.agg #[.int .u64 (limb n 0), .int .u64 (limb n 1), .int .u64 (limb n 2), .int .u64 (limb n 3)], .agg #[.int .u64 (limb m 0), .int .u64 (limb m 1), .int .u64 (limb m 2), .int .u64 (limb m 3)]] w fun e w' =>
      e = .returned (.tuple #[.agg #[.int .u64 0, .int .u64 0, .int .u64 0, .int .u64 0], .bool false]) ∧ Below w.heap.size w w' := by
  have Hr := Lib.hid (fun w => right_no (subL n m 0) (subL n m 1) (subL n m 2) (subL n m 3) 1 (by decide) w)
  have e4 : (owL n m 4 : Int) = 1 := by rw [owL_top n m hn hm, if_pos h]; rfl
  clear hn hm h
  go_enter Tryz.func92, Tryz.ntmps92
  go_wp2
  refine wp_loop_rounds 5 ?_
  rw [rounds_succ]
  go_wp2_with fail
  go_region
  go_wp2_with fail
  rw [rounds_succ]
  go_wp2_with fail
  go_region
  go_wp2_with fail
  rw [rounds_succ]
  go_wp2_with fail
  go_region
  go_wp2_with fail
  rw [rounds_succ]
  go_wp2_with fail
  go_region
  go_wp2_with fail
  rw [rounds_succ]
  go_wp2_with fail
  refine (Hr.out _).mono ?_
  rintro e w1 ⟨rfl, hb1⟩
  have hr0 := (blk3 w _ _ _ _).drew.drew.drew.drew.below hb1 (by simp)
  have hB : Below w.heap.size w w1 := (((((((Below.refl _ _).alloc (Nat.le_refl _) _).alloc (by simp) _).alloc (by simp; omega) _).drew).drew).drew).drew.trans (hb1.mono (by simp; omega))
  have hc2 := fun i => hr0.cell i
  have hf2 := fun i => hr0.free i
  go_wp2
  have hcc := fun i => (hr0.store4 (.int .u64 0) (.int .u64 0) (.int .u64 0) (.int .u64 0)).cell i
  refine bodyPost_ret (v := .tuple #[.agg #[.int .u64 0, .int .u64 0, .int .u64 0, .int .u64 0], .bool false]) (by simp [results, Tryz.results92, go_sem, hcc]) rfl ⟨rfl, below_store4 hB (by omega) _ _ _ _⟩
end Go.Proofs.YtpcdgljcpacpiaaGreatDoor

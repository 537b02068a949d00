/- Contracts of the reference of layer 4: sums, differences, comparison. -/
import Derived.Test.YtibemleodghhfaaWr1
import Derived.Test.YtibemleodghhfaaWd1
import Derived.Outline
namespace Go.Proofs.Ytibemleodghhfaa
open Go.RowKit
attribute [local go_sem ↓] Go.wp_at_zero Go.wp_at_succ
set_option maxHeartbeats 1000000 in
theorem radd_any (n m : Nat) (hn : n < 256 ^ 32) (hm : m < 256 ^ 32) (w : World) :
    Calls Try.prog 17 #[.agg #[.int .u64 (limb n 0), .int .u64 (limb n 1), .int .u64 (limb n 2), .int .u64 (limb n 3)], .agg #[.int .u64 (limb m 0), .int .u64 (limb m 1), .int .u64 (limb m 2), .int .u64 (limb m 3)]] w fun e w' =>
      e = .returned (.tuple #[.agg #[.int .u64 (limb (wN (n + m)) 0), .int .u64 (limb (wN (n + m)) 1), .int .u64 (limb (wN (n + m)) 2), .int .u64 (limb (wN (n + m)) 3)], .bool (wOk (n + m))]) ∧ Below w.heap.size w w' := by
  obtain ⟨i0, hi0, hz0, hz1, hz2⟩ := info_parts infoInt
  have Hn := Lib.hid hn
  have Hm := Lib.hid hm
  clear hn hm
  go_enter Try.func17, Try.ntmps17
  go_wp2_with fail
  refine (digits_any n _).mono ?_
  rintro e w1 ⟨g1, c1, rfl, hg1, hg1', hx, hb1⟩
  have hB1 := bcell hb1
  have hz1' : w.heap.size + 2 < w1.heap.size := by have := hb1.size; simp at this; omega
  have hz1'' : w.heap.size + 1 < w1.heap.size := by omega
  have hz1''' : w.heap.size < w1.heap.size := by omega
  go_wp2_with fail
  refine (digits_any m _).mono ?_
  rintro e w2 ⟨g2, c2, rfl, hg2, hg2', hy, hb2⟩
  go_wp2_with fail
  have hx' : ∀ i, i < 32 → w2.cell? ⟨g1, i, none⟩ = some (.int .i64 (dig n i)) := fun i hi => (hb2.cell (p := ⟨g1, i, none⟩) hg1').trans (hx i hi)
  have hlt1 : g1 < w2.heap.size := by have := hb2.size; omega
  have hr : Blk w2 (w.heap.size + 2) 26 (wcells 0) := by
    have h0 : Blk (((w.alloc (.cells (wcells n) 26)).alloc (.cells (wcells m) 26)).alloc (.cells (wcells 0) 26)) (w.heap.size + 2) 26 (wcells 0) := by
      have := Blk.new ((w.alloc (.cells (wcells n) 26)).alloc (.cells (wcells m) 26)) 26 (wcells 0)
      simpa using this
    rw [w0] at h0 ⊢
    exact (h0.below hb1 (by simp)).below hb2 (by omega)
  have hB : Below w.heap.size w w2 := ((((Below.refl _ _).alloc (Nat.le_refl _) _).alloc (by simp) _).alloc (by simp; omega) _).trans ((hb1.mono (by simp; omega)).trans (hb2.mono (by omega)))
  go_loopw [8, 9, 10] (fun v c i wr => ∃ k : Nat, k ≤ 32 ∧ i = .int .i64 k ∧ c = .int .i64 (cy n m k : Int) ∧ wr.ownsRow w2.heap.size 3 1 v k (digs (n + m) k) ∧ Below w2.heap.size w2 wr) (fun _ _ i _ => 32 - (intOf i).toNat)
  case atStart => exact ⟨0, by omega, rfl, by rw [cy_zero]; rfl, World.ownsRow_nil _ _ _ _, Below.refl _ _⟩
  case round =>
    obtain ⟨k, hk, rfl, rfl, hown, hb⟩ := hrel
    by_cases hlt : k < 32
    · have hxk := (hb.cell (p := ⟨g1, k, none⟩) hlt1).trans (hx' k hlt)
      have hyk := (hb.cell (p := ⟨g2, k, none⟩) hg2').trans (hy k hlt)
      have ⟨hs1, hs2⟩ := dig_sum n m k
      have a0 := dig_lo n k
      have a1 := dig_hi n k
      have b0 := dig_lo m k
      have b1 := dig_hi m k
      have c0 : (0 : Int) ≤ (cy n m k : Int) := Int.natCast_nonneg _
      have c1 : (cy n m k : Int) ≤ 1 := by have := cy_le n m k; omega
      go_wp2_with fail
      go_quiet (fail)
      go_wp2_with (at_builtin; go_must (refine wpList_push rfl _ _ 64 rfl w2.heap.size 3 i0 (.int .i64 0) 1 8 Try.underlying64 hi0 hz0 hz1 hz2 rfl (by decide) _ _ _ rfl (own_drewN hown nq) [.int .i64 (dig (n + m) k)] rfl rfl rfl (by unfold maxLen; omega) (by omega) hb.size ?_); intro v1 w3 hown1 hb3 hz3)
      rw [← digs_succ] at hown1
      go_roundw
      case rel => exact ⟨k + 1, by omega, by go_num, by rw [hs2], hown1, hb.trans (below_from_drewN hb3)⟩
      case measure => simp [intOf]; omega
    · obtain rfl : k = 32 := by omega
      have hc0 : (cy n m 32 : Int) = ((cy n m 32 : Nat) : Int) := rfl
      go_wp2_with (at_builtin; refine wpList_push rfl _ _ 64 rfl w2.heap.size 3 i0 (.int .i64 0) 1 8 Try.underlying64 hi0 hz0 hz1 hz2 rfl (by decide) _ _ _ rfl hown [.int .i64 (cy n m 32 : Int)] rfl rfl rfl (by unfold maxLen; omega) (by omega) hb.size ?_; intro v1 w3 hown1 hb3 hz3)
      go_wp2_with fail
      have he : digs (n + m) 32 ++ [Value.int .i64 (cy n m 32 : Int)] = ints (digl (n + m) 32 ++ [cy n m 32]) := by rw [ints_snoc, digs_ints]
      rw [he] at hown1
      refine (number_any _ _ _ _ _ hown1 (by omega) (by omega) ?_).mono ?_
      · intro d hd
        simp at hd
        rcases hd with hd | rfl
        · exact digl_lt _ _ _ hd
        · have := cy_le n m 32; omega
      rw [vl_sum n m Hn.out Hm.out]
      rintro e w4 ⟨rfl, hb4⟩
      have hb24 := (hb.trans hb3).trans (hb4.mono (by have := hb3.size; have := hb.size; omega))
      have hr4 := hr.below hb24 (by omega)
      have hc2 := fun i => hr4.cell i
      have hf2 := fun i => hr4.free i
      rw [w0] at hc2
      go_wp2
      have hr5 := (((hr4.set_ 0 (.int .u64 (limb (wN (n + m)) 0))).set_ 1 (.int .u64 (limb (wN (n + m)) 1))).set_ 2 (.int .u64 (limb (wN (n + m)) 2))).set_ 3 (.int .u64 (limb (wN (n + m)) 3))
      have hcc := fun i => hr5.cell i
      refine bodyPost_ret (v := .tuple #[.agg #[.int .u64 (limb (wN (n + m)) 0), .int .u64 (limb (wN (n + m)) 1), .int .u64 (limb (wN (n + m)) 2), .int .u64 (limb (wN (n + m)) 3)], .bool (wOk (n + m))]) (by simp [results, Try.results17, go_sem, hcc, w0]) rfl ⟨rfl, ?_⟩
      exact ((((hB.trans (hb24.mono hB.size)).setCell (by simp; omega) _).setCell (by simp; omega) _).setCell (by simp; omega) _).setCell (by simp; omega) _
set_option maxHeartbeats 1000000 in
theorem rcompare_any (n m : Nat) (hn : n < 256 ^ 32) (hm : m < 256 ^ 32) (w : World) :
    Calls Try.prog 27 #[.agg #[.int .u64 (limb n 0), .int .u64 (limb n 1), .int .u64 (limb n 2), .int .u64 (limb n 3)], .agg #[.int .u64 (limb m 0), .int .u64 (limb m 1), .int .u64 (limb m 2), .int .u64 (limb m 3)]] w fun e w' =>
      e = .returned (.int .i64 (cmpI n m)) ∧ Below w.heap.size w w' := by
  have Hn := Lib.hid hn
  have Hm := Lib.hid hm
  clear hn hm
  go_enter Try.func27, Try.ntmps27
  go_wp2_with fail
  refine (digits_any n _).mono ?_
  rintro e w1 ⟨g1, c1, rfl, hg1, hg1', hx, hb1⟩
  have hB1 := bcell hb1
  have hz1'' : w.heap.size + 1 < w1.heap.size := by have := hb1.size; simp at this; omega
  have hz1''' : w.heap.size < w1.heap.size := by omega
  go_wp2_with fail
  refine (digits_any m _).mono ?_
  rintro e w2 ⟨g2, c2, rfl, hg2, hg2', hy, hb2⟩
  go_wp2_with fail
  have hx' : ∀ i, i < 32 → w2.cell? ⟨g1, i, none⟩ = some (.int .i64 (dig n i)) := fun i hi => (hb2.cell (p := ⟨g1, i, none⟩) hg1').trans (hx i hi)
  have hlt1 : g1 < w2.heap.size := by have := hb2.size; omega
  have hB : Below w.heap.size w w2 := (((Below.refl _ _).alloc (Nat.le_refl _) _).alloc (by simp) _).trans ((hb1.mono (by simp; omega)).trans (hb2.mono (by omega)))
  go_loopw [7] (fun i wr => ∃ k : Nat, k ≤ 32 ∧ i = .int .i64 ((k : Int) - 1) ∧ Hid (n / 256 ^ k = m / 256 ^ k) ∧ Below w2.heap.size w2 wr) (fun i _ => (intOf i + 1).toNat)
  case atStart => exact ⟨32, by omega, rfl, by show _ = _; rw [Nat.div_eq_of_lt Hn.out, Nat.div_eq_of_lt Hm.out], Below.refl _ _⟩
  case round =>
    obtain ⟨k, hk, rfl, heq, hb⟩ := hrel
    by_cases hlt : 0 < k
    · obtain ⟨j, rfl⟩ : ∃ j, k = j + 1 := ⟨k - 1, by omega⟩
      have hxk := (hb.cell (p := ⟨g1, j, none⟩) hlt1).trans (hx' j (by omega))
      have hyk := (hb.cell (p := ⟨g2, j, none⟩) hg2').trans (hy j (by omega))
      have hj : (j : Int) < 32 := by omega
      have hj0 : (0 : Int) ≤ (j : Int) := by omega
      rw [show ((j + 1 : Nat) : Int) - 1 = (j : Int) from by omega]
      by_cases h1 : dig n j < dig m j
      · have hres := Lib.hid (cmpI_lt (cmp_lt heq.out h1))
        go_wp2_with fail
        go_quiet (fail)
        go_wp2_with fail
        go_ret
        exact ⟨by rw [hres.out]; rfl, hB.trans ((below_drewN hb _).mono (by have := hb2.size; omega))⟩
      · have h1' : decide (dig n j < dig m j) = false := by simpa using h1
        by_cases h2 : dig m j < dig n j
        · have hres := Lib.hid (cmpI_gt (cmp_lt heq.out.symm h2))
          go_wp2_with fail
          go_quiet (fail)
          go_wp2_with fail
          go_quiet (fail)
          go_wp2_with fail
          go_ret
          exact ⟨by rw [hres.out]; rfl, hB.trans ((below_drewN (below_drewN hb _) _).mono (by have := hb2.size; omega))⟩
        · have h2' : decide (dig m j < dig n j) = false := by simpa using h2
          have heq' := Lib.hid (cmp_eq heq.out h1 h2)
          go_wp2_with fail
          go_quiet (fail)
          go_wp2_with fail
          go_quiet (fail)
          go_wp2_with fail
          go_roundw
          case rel => exact ⟨j, by omega, rfl, heq', below_drewN hb _⟩
          case measure => simp [intOf]
    · obtain rfl : k = 0 := by omega
      have hres : cmpI n m = 0 := cmpI_eq (by have := heq.out; simpa using this)
      rw [show ((0 : Nat) : Int) - 1 = -1 from by omega]
      go_wp2_with fail
      go_ret
      exact ⟨by rw [hres]; rfl, hB.trans (hb.mono (by have := hb2.size; omega))⟩
end Go.Proofs.Ytibemleodghhfaa

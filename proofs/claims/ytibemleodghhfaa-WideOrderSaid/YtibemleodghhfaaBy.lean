/- Contract of layer 4 (wide): Bytes. -/
import Derived.Test.YtibemleodghhfaaK2
namespace Go.Proofs.Ytibemleodghhfaa
open Go.RowKit
attribute [local go_sem ↓] Go.wp_at_zero Go.wp_at_succ
def byN (n i : Nat) : Nat := n / 256 ^ i % 256
def bys (n : Nat) : List UInt8 := (List.range 32).map fun t => UInt8.ofNat (byN n (31 - t))
def byV (n j : Nat) : List Value := (List.range j).map fun t => .int .u8 (dig n (31 - t))
theorem byV_succ (n j : Nat) : byV n (j + 1) = byV n j ++ [.int .u8 (dig n (31 - j))] := by simp [byV, List.range_succ]
theorem bys_len (n : Nat) : (bys n).length = 32 := by simp [bys]
theorem byV_cell (n j : Nat) (h : j < (bys n).length) : (byV n 32)[j]? = some (.int .u8 ((bys n)[j].toNat : Int)) := by
  have h' : j < 32 := by rw [bys_len] at h; exact h
  simp [byV, bys, h', dig, byN]
theorem dig_conv (n q r : Nat) (hr : r < 8) : IntKind.u8.wrap (limb n q / 2 ^ (8 * r)) = dig n (8 * q + r) := by
  have h := dig_shift n (8 * q + r)
  rw [show (8 * q + r) / 8 = q by omega, show (8 * q + r) % 8 = r by omega] at h
  have hl : Lim (limb n q / 2 ^ (8 * r)) := by
    have e : limb n q / 2 ^ (8 * r) = ((n / 18446744073709551616 ^ q % 18446744073709551616 / 2 ^ (8 * r) : Nat) : Int) := by unfold limb; simp
    rw [e]
    have h1 : n / 18446744073709551616 ^ q % 18446744073709551616 / 2 ^ (8 * r) ≤ n / 18446744073709551616 ^ q % 18446744073709551616 := Nat.div_le_self _ _
    have h0 : n / 18446744073709551616 ^ q % 18446744073709551616 < 18446744073709551616 := Nat.mod_lt _ (by decide)
    generalize n / 18446744073709551616 ^ q % 18446744073709551616 / 2 ^ (8 * r) = m at *
    generalize n / 18446744073709551616 ^ q % 18446744073709551616 = x at *
    exact ⟨Int.natCast_nonneg _, by omega⟩
  rw [and255 _ hl] at h
  rw [IntKind.wrap_u8]
  exact h
set_option maxHeartbeats 1000000 in
theorem bytes_any (n : Nat) (w : World) :
    Calls Try.prog 30 #[.agg #[.int .u64 (limb n 0), .int .u64 (limb n 1), .int .u64 (limb n 2), .int .u64 (limb n 3)]] w fun e w' => e = .returned (.string ⟨(bys n).toArray⟩) ∧ Below w.heap.size w w' := by
  obtain ⟨i0, hi0, iz0, iz1, iz2⟩ := info_parts infoByte
  go_enter Try.func30, Try.ntmps30
  go_wp2
  go_loopw [3, 4] (fun v i wr => ∃ q : Nat, q ≤ 4 ∧ i = .int .i64 ((q : Int) - 1) ∧ Blk wr w.heap.size 26 (wcells n) ∧ wr.ownsRow (w.heap.size + 1) 5 1 v (32 - 8 * q) (byV n (32 - 8 * q)) ∧ Below w.heap.size w wr) (fun _ i _ => (intOf i + 1).toNat)
  case atStart => exact ⟨4, by omega, rfl, blk1 w _ _, World.ownsRow_nil _ _ _ _, BW_alloc (Below.refl _ _) _⟩
  case round =>
    obtain ⟨q, hq, rfl, hblk, hown, hb⟩ := hrel
    by_cases h0 : 0 < q
    · obtain ⟨p, rfl⟩ : ∃ p, q = p + 1 := ⟨q - 1, by omega⟩
      obtain ⟨wo, rfl⟩ : ∃ wo : World, wo = wr := ⟨_, rfl⟩
      rw [show ((p + 1 : Nat) : Int) - 1 = (p : Int) from by omega]
      go_wp2_with fail
      go_loopw [3, 5] (fun v k wr => ∃ r : Nat, r ≤ 8 ∧ k = .int .i64 ((r : Int) - 1) ∧ Blk wr w.heap.size 26 (wcells n) ∧ wr.ownsRow (w.heap.size + 1) 5 1 v (32 - 8 * p - r) (byV n (32 - 8 * p - r)) ∧ Below w.heap.size w wr) (fun _ k _ => (intOf k + 1).toNat)
      case atStart => exact ⟨8, by omega, rfl, hblk, by rw [show 32 - 8 * p - 8 = 32 - 8 * (p + 1) from by omega]; exact hown, hb⟩
      case round =>
        clear hblk hown hb
        obtain ⟨r, hr, rfl, hblk, hown, hb⟩ := hrel
        by_cases h1 : 0 < r
        · obtain ⟨s, rfl⟩ : ∃ s, r = s + 1 := ⟨r - 1, by omega⟩
          rw [show ((s + 1 : Nat) : Int) - 1 = (s : Int) from by omega]
          have hc := (hblk.cell p).trans (wcells_at n p (by omega))
          have hp4 : (p : Int) < 4 := by omega
          have hs8 : (s : Int) ≤ 7 := by omega
          have hd := dig_conv n p s (by omega)
          have hz := hb.size
          have hlt : w.heap.size < wr.heap.size := hblk.lt
          go_wp2_with (at_builtin; go_must (refine wpList_push_at rfl _ _ 55 rfl (w.heap.size + 1) 5 i0 (.int .u8 0) 1 1 Try.underlying55 hi0 iz0 iz1 iz2 rfl (by decide) _ _ _ rfl hown [.int .u8 (dig n (8 * p + s))] _ rfl (by simp) rfl rfl (by unfold maxLen; omega) (by omega) (by omega) ?_); intro v1 w3 hown3 hb3 hz3)
          have e : dig n (8 * p + s) = dig n (31 - (32 - 8 * p - (s + 1))) := by congr 1; omega
          rw [e, ← byV_succ] at hown3
          have e2 : 32 - 8 * p - (s + 1) + 1 = 32 - 8 * p - s := by omega
          rw [e2] at hown3
          clear e e2
          go_roundw
          case rel => exact ⟨s, by omega, rfl, hblk.below hb3 (by omega), hown3, hb.trans (hb3.mono (by omega))⟩
          case measure => simp [intOf]
        · obtain rfl : r = 0 := by omega
          rw [show ((0 : Nat) : Int) - 1 = -1 from by omega]
          go_wp2_with fail
          go_roundw
          case rel => exact ⟨p, by omega, rfl, hblk, by simpa using hown, hb⟩
          case measure => simp [intOf]
    · obtain rfl : q = 0 := by omega
      rw [show ((0 : Nat) : Int) - 1 = -1 from by omega]
      obtain ⟨g, cap, rfl, hg1, hg2, _, _⟩ := own_form hown (by omega)
      have hcv := run_convert_bytes_back (P := Try.prog) wr 55 9 5 ⟨g, 0, none⟩ cap (bys n) Try.underlying55 Try.underlying5 Try.underlying9 (fun j hj => by
        have e1 : (⟨g, 0, none⟩ : Addr).add j = ⟨g, j, none⟩ := by unfold Addr.add; split <;> simp_all
        rw [e1, hown.cellAt j (by rw [bys_len] at hj; omega)]
        exact byV_cell n j hj)
      rw [bys_len] at hcv
      go_wp2_with fail
      go_ret
      exact ⟨rfl, hb⟩
end Go.Proofs.Ytibemleodghhfaa

/- Contracts of the document's answer of layer 4: Bytes, FromBytes. -/
import Derived.Test.YtibemleodghhfaaBy
namespace Go.Proofs.Ytibemleodghhfaa
open Go.RowKit
attribute [local go_sem ↓] Go.wp_at_zero Go.wp_at_succ
set_option maxHeartbeats 1000000 in
theorem rbytes_any (n : Nat) (w : World) :
    Calls Try.prog 34 #[.agg #[.int .u64 (limb n 0), .int .u64 (limb n 1), .int .u64 (limb n 2), .int .u64 (limb n 3)]] w fun e w' => e = .returned (.string ⟨(bys n).toArray⟩) ∧ Below w.heap.size w w' := by
  obtain ⟨i0, hi0, iz0, iz1, iz2⟩ := info_parts infoByte
  go_enter Try.func34, Try.ntmps34
  go_wp2_with fail
  refine (digits_any n _).mono ?_
  rintro e w1 ⟨g, c, rfl, hg1, hg2, hx, hb1⟩
  have hB1 := BW_on (BW_alloc (Below.refl w.heap.size w) _) hb1
  go_wp2_with fail
  go_loopw [4, 5] (fun v i wr => ∃ q : Nat, q ≤ 32 ∧ i = .int .i64 ((q : Int) - 1) ∧ wr.ownsRow w1.heap.size 5 1 v (32 - q) (byV n (32 - q)) ∧ Below w1.heap.size w1 wr) (fun _ i _ => (intOf i + 1).toNat)
  case atStart => exact ⟨32, by omega, rfl, World.ownsRow_nil _ _ _ _, Below.refl _ _⟩
  case round =>
    obtain ⟨q, hq, rfl, hown, hb⟩ := hrel
    by_cases h0 : 0 < q
    · obtain ⟨p, rfl⟩ : ∃ p, q = p + 1 := ⟨q - 1, by omega⟩
      rw [show ((p + 1 : Nat) : Int) - 1 = (p : Int) from by omega]
      have hc := (hb.cell (p := ⟨g, p, none⟩) hg2).trans (hx p (by omega))
      have hp4 : (p : Int) < 32 := by omega
      have hz := hb.size
      have hd0 := dig_lo n p
      have hd1 := dig_hi n p
      have hcv : IntKind.u8.wrap (dig n p) = dig n p := by rw [IntKind.wrap_u8]; omega
      go_wp2_with (at_builtin; go_must (refine wpList_push rfl _ _ 55 rfl w1.heap.size 5 i0 (.int .u8 0) 1 1 Try.underlying55 hi0 iz0 iz1 iz2 rfl (by decide) _ _ _ rfl hown [.int .u8 (dig n p)] rfl rfl rfl (by unfold maxLen; omega) (by omega) (by omega) ?_); intro v1 w3 hown3 hb3 hz3)
      have e : dig n p = dig n (31 - (32 - (p + 1))) := by congr 1; omega
      rw [e, ← byV_succ] at hown3
      have e2 : 32 - (p + 1) + 1 = 32 - p := by omega
      rw [e2] at hown3
      clear e e2 hcv
      go_roundw
      case rel => exact ⟨p, by omega, rfl, hown3, hb.trans hb3⟩
      case measure => simp [intOf]
    · obtain rfl : q = 0 := by omega
      rw [show ((0 : Nat) : Int) - 1 = -1 from by omega]
      obtain ⟨g', cap, rfl, hg1', hg2', _, _⟩ := own_form hown (by omega)
      have hcv := run_convert_bytes_back (P := Try.prog) wr 55 9 5 ⟨g', 0, none⟩ cap (bys n) Try.underlying55 Try.underlying5 Try.underlying9 (fun j hj => by
        have e1 : (⟨g', 0, none⟩ : Addr).add j = ⟨g', j, none⟩ := by unfold Addr.add; split <;> simp_all
        rw [e1, hown.cellAt j (by rw [bys_len] at hj; omega)]
        exact byV_cell n j hj)
      rw [bys_len] at hcv
      go_wp2_with fail
      go_ret
      exact ⟨rfl, BW_on hB1 hb⟩
/-- The number of bytes, the greatest first. -/
def unb (l : List UInt8) : Nat := vl (l.reverse.map UInt8.toNat)
def unD (s : ByteArray) (j : Nat) : List Nat := (List.range j).map fun t => (s.data.toList.getD (31 - t) 0).toNat
theorem unD_succ (s : ByteArray) (j : Nat) : unD s (j + 1) = unD s j ++ [(s.data.toList.getD (31 - j) 0).toNat] := by simp [unD, List.range_succ]
theorem unD_lt (s : ByteArray) (j : Nat) : ∀ d ∈ unD s j, d < 256 := by
  intro d hd
  simp [unD] at hd
  obtain ⟨i, _, rfl⟩ := hd
  exact UInt8.toNat_lt _
theorem unD_all (s : ByteArray) (h : s.size = 32) : unD s 32 = s.data.toList.reverse.map UInt8.toNat := by
  have hl : s.data.toList.length = 32 := by simpa using h
  apply List.ext_getElem (by simp [unD]; exact h.symm)
  intro i h1 h2
  have hi : i < 32 := by simpa [unD] using h1
  simp only [unD, List.getElem_map, List.getElem_range, List.getElem_reverse]
  have e : s.data.toList.length - 1 - i = 31 - i := by omega
  rw [List.getD_eq_getElem?_getD, List.getElem?_eq_getElem (by omega)]
  simp only [e, Option.getD_some]
theorem unb_lt (s : ByteArray) (h : s.size = 32) : W256 (unb s.data.toList) := by
  have h1 := vl_lt (s.data.toList.reverse.map UInt8.toNat) (by intro d hd; simp at hd; obtain ⟨x, _, rfl⟩ := hd; exact UInt8.toNat_lt x)
  have hl : s.data.toList.length = 32 := by simpa using h
  rw [List.length_map, List.length_reverse, hl] at h1
  exact h1
set_option maxHeartbeats 1000000 in
theorem rfrom_yes (s : ByteArray) (hs : s.size = 32) (w : World) :
    Calls Try.prog 32 #[.string s] w fun e w' => e = .returned (.tuple #[.agg #[.int .u64 (limb (unb s.data.toList) 0), .int .u64 (limb (unb s.data.toList) 1), .int .u64 (limb (unb s.data.toList) 2), .int .u64 (limb (unb s.data.toList) 3)], .int .i64 0]) ∧ Below w.heap.size w w' := by
  obtain ⟨i0, hi0, iz0, iz1, iz2⟩ := info_parts infoInt
  have Hs := Lib.hid hs
  have hs1 : ((s.size : Int) != 32) = false := by simp; omega
  have hN := Lib.hid (unb_lt s hs)
  have hall := Lib.hid (unD_all s hs)
  clear hs
  go_enter Try.func32, Try.ntmps32
  go_wp2_with fail
  go_loopw [4, 5] (fun v i wr => ∃ q : Nat, q ≤ 32 ∧ i = .int .i64 ((q : Int) - 1) ∧ Blk wr w.heap.size 26 #[.int .u64 0, .int .u64 0, .int .u64 0, .int .u64 0] ∧ wr.ownsRow (w.heap.size + 1) 3 1 v (32 - q) (ints (unD s (32 - q))) ∧ Below w.heap.size w wr) (fun _ i _ => (intOf i + 1).toNat)
  case atStart => exact ⟨32, by omega, rfl, blk1 w _ _, World.ownsRow_nil _ _ _ _, BW_alloc (Below.refl _ _) _⟩
  case round =>
    obtain ⟨q, hq, rfl, hblk, hown, hb⟩ := hrel
    by_cases h0 : 0 < q
    · obtain ⟨p, rfl⟩ : ∃ p, q = p + 1 := ⟨q - 1, by omega⟩
      rw [show ((p + 1 : Nat) : Int) - 1 = (p : Int) from by omega]
      have hps : p < s.size := by rw [Hs.out]; omega
      have hlt := hblk.lt
      have hps' : (p : Int) < (s.size : Int) := by omega
      have hsp : s[p].toNat = (s.data.toList.getD p 0).toNat := by
        rw [List.getD_eq_getElem?_getD, List.getElem?_eq_getElem (by simpa using hps)]; rfl
      have hb8 : (s[p].toNat : Int) < 256 := by have := UInt8.toNat_lt s[p]; omega
      have hz := hb.size
      have Hsp := Lib.hid hsp
      clear hsp
      go_wp2_with (at_builtin; go_must (refine wpList_push rfl _ _ 64 rfl (w.heap.size + 1) 3 i0 (.int .i64 0) 1 8 Try.underlying64 hi0 iz0 iz1 iz2 rfl (by decide) _ _ _ rfl hown [.int .i64 (s[p].toNat : Int)] rfl rfl rfl (by unfold maxLen; omega) (by omega) (by omega) ?_); intro v1 w3 hown3 hb3 hz3)
      have e : ints (unD s (32 - (p + 1))) ++ [.int .i64 (s[p].toNat : Int)] = ints (unD s (32 - p)) := by
        rw [show 32 - p = (32 - (p + 1)) + 1 by omega, unD_succ, ints_snoc, Hsp.out, show 31 - (32 - (p + 1)) = p by omega]
      rw [e, show 32 - (p + 1) + 1 = 32 - p by omega] at hown3
      clear e
      go_roundw
      case rel => exact ⟨p, by omega, rfl, hblk.below hb3 (by omega), hown3, hb.trans (hb3.mono (by omega))⟩
      case measure => simp [intOf]
    · obtain rfl : q = 0 := by omega
      rw [show ((0 : Nat) : Int) - 1 = -1 from by omega]
      have hnum := number_any _ (w.heap.size + 1) 32 (unD s 32) wr hown (by decide) (by decide) (unD_lt s 32)
      rw [hall.out] at hnum
      change Calls Try.prog 41 #[_] wr fun e w' => e = .returned (.tuple #[.agg #[.int .u64 (limb (wN (unb s.data.toList)) 0), .int .u64 (limb (wN (unb s.data.toList)) 1), .int .u64 (limb (wN (unb s.data.toList)) 2), .int .u64 (limb (wN (unb s.data.toList)) 3)], .bool (wOk (unb s.data.toList))]) ∧ Below wr.heap.size wr w' at hnum
      rw [wN_of hN.out] at hnum
      generalize hNN : unb s.data.toList = N at hnum
      have HNN := Lib.hid hNN
      clear hNN
      have Hnum := Lib.hid hnum
      clear hnum
      go_wp2_with fail
      refine Hnum.out.mono ?_
      rintro e w2 ⟨rfl, hb2⟩
      replace hblk := (hblk.on hb2).alloc (.cells #[.int .u64 (limb N 0), .int .u64 (limb N 1), .int .u64 (limb N 2), .int .u64 (limb N 3)] 26)
      have hB := BW_alloc (BW_on hb hb2) (.cells #[.int .u64 (limb N 0), .int .u64 (limb N 1), .int .u64 (limb N 2), .int .u64 (limb N 3)] 26)
      have fo := fun i => hblk.free i
      have co := fun i => hblk.cell i
      go_wp2
      have hcc := fun i => (hblk.store4 (.int .u64 (limb N 0)) (.int .u64 (limb N 1)) (.int .u64 (limb N 2)) (.int .u64 (limb N 3))).cell i
      refine bodyPost_ret (v := .tuple #[.agg #[.int .u64 (limb N 0), .int .u64 (limb N 1), .int .u64 (limb N 2), .int .u64 (limb N 3)], .int .i64 0]) (by simp [results, Try.results32, go_sem, hcc]) rfl ⟨by rw [HNN.out], below_store4 hB (Nat.le_refl _) _ _ _ _⟩
theorem rfrom_no (s : ByteArray) (hs : s.size ≠ 32) (w : World) :
    Calls Try.prog 32 #[.string s] w fun e w' => e = .returned (.tuple #[.agg #[.int .u64 0, .int .u64 0, .int .u64 0, .int .u64 0], .int .i64 10]) ∧ Below w.heap.size w w' := by
  have hs1 : ((s.size : Int) != 32) = true := by simp; omega
  go_enter Try.func32, Try.ntmps32
  go_wp2
  have hcc := fun i => (Blk.new w 26 #[.int .u64 0, .int .u64 0, .int .u64 0, .int .u64 0]).cell i
  refine bodyPost_ret (v := .tuple #[.agg #[.int .u64 0, .int .u64 0, .int .u64 0, .int .u64 0], .int .i64 10]) (by simp [results, Try.results32, go_sem, hcc]) rfl ⟨rfl, BW_alloc (Below.refl _ _) _⟩
end Go.Proofs.Ytibemleodghhfaa

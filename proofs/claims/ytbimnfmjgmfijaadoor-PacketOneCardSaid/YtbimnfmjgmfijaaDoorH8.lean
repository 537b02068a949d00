/- Contract of the hash: the hash of texts. -/
import Derived.Test.YtbimnfmjgmfijaaDoorH7
namespace Go.Proofs.YtbimnfmjgmfijaaDoor
open Go.RowKit
attribute [local go_sem ↓] Go.wp_at_zero Go.wp_at_succ
/-- A row of texts. -/
def Strs (w : World) (v : Value) (L : List ByteArray) : Prop := ∃ p cap, v = .slice p L.length cap ∧ (0 < L.length → ∃ g off, p = some ⟨g, off, none⟩ ∧ ∀ i (hi : i < L.length), w.cell? ⟨g, off + i, none⟩ = some (.string L[i]))
theorem Strs.on {w w' : World} {v : Value} {L : List ByteArray} (h : Strs w v L) (hb : Below w.heap.size w w') : Strs w' v L := by
  obtain ⟨p, cap, rfl, hf⟩ := h
  exact ⟨p, cap, rfl, fun h0 => by obtain ⟨g, off, rfl, hc⟩ := hf h0; exact ⟨g, off, rfl, fun i hi => BW_cell hb (hc i hi)⟩⟩
def allB (L : List ByteArray) : List Nat := L.flatMap bysN
theorem allB_succ (L : List ByteArray) (k : Nat) (h : k < L.length) : allB (L.take (k + 1)) = allB (L.take k) ++ bysN L[k] := by
  unfold allB
  rw [List.take_succ_eq_append_getElem h, List.flatMap_append]
  simp
theorem allB_le (L : List ByteArray) (k : Nat) (h : k < L.length) : (allB (L.take k)).length + L[k].size ≤ (allB L).length := by
  have e : allB L = allB (L.take (k + 1)) ++ allB (L.drop (k + 1)) := by
    unfold allB
    rw [← List.flatMap_append, List.take_append_drop]
  rw [e, allB_succ L k h, List.length_append, List.length_append, bysN_len]
  omega
theorem Below.grownA {w w' w'' : World} {g : Nat} (h : Below w.heap.size w w') (hb : w'.grownBy w'' (some g)) (hg : w.heap.size ≤ g) : Below w.heap.size w w'' := h.grown hb h.size (fun k e => by cases e; exact hg)
set_option maxHeartbeats 2000000 in
set_option maxRecDepth 100000 in
theorem hof_any (v : Value) (L : List ByteArray) (w : World) (hv : Hid (Strs w v L)) (ht : Hid (Tabs w)) (hT : (allB L).length ≤ 1000000000000000000) (hL : L.length ≤ 9223372036854775807) :
    Calls Tryd.prog 51 #[v] w fun e w' => e = .returned (shaV (allB L)) ∧ Below w.heap.size w w' := by
  obtain ⟨p, cap, rfl, hf⟩ := hv.out
  have Hf := Lib.hid hf
  clear hf hv
  have h1w := ht.out.lt
  go_enter Tryd.func51, Tryd.ntmps51
  have hT1 := ht.out.on (BW_alloc (BW_refl w) (.cells (U8s z32).toArray 66))
  go_wp2_with fail
  refine (new_any _ hT1).mono ?_
  rintro e w1 ⟨rfl, hw1⟩
  have ko : Blk w1 w.heap.size 66 (U8s z32).toArray := by rw [hw1]; exact (blk1 w 66 (U8s z32).toArray).alloc (.cells (hcs BG z64 0 true) 102)
  have kh : Hid (HSt KK BG w1 (w.alloc (.cells (U8s z32).toArray 66)).heap.size (allB (L.take 0))) := by rw [hw1]; exact HSt.new _
  have hb : Below w.heap.size w w1 := by rw [hw1]; exact BW_alloc (BW_alloc (BW_refl w) (.cells (U8s z32).toArray 66)) (.cells (hcs BG z64 0 true) 102)
  have hT2 : Hid (Tabs w1) := by rw [hw1]; exact hT1.on (BW_alloc (BW_refl _) (.cells (hcs BG z64 0 true) 102))
  have hge : Hid (w.heap.size < (w.alloc (.cells (U8s z32).toArray 66)).heap.size) := by show _ < _; simp
  clear hT1 hw1
  generalize (w.alloc (.cells (U8s z32).toArray 66)).heap.size = gh at *
  go_wp2_with fail
  go_loopw [9] (fun i wi => ∃ k : Nat, k ≤ L.length ∧ i = .int .i64 (k : Int) ∧ Hid (HSt KK BG wi gh (allB (L.take k))) ∧ Blk wi w.heap.size 66 (U8s z32).toArray ∧ Hid (Tabs wi) ∧ Below w.heap.size w wi) (fun i _ => L.length - (intOf i).toNat)
  case atStart => exact ⟨0, by omega, rfl, kh, ko, hT2, hb⟩
  case round =>
    clear kh ko hT2 hb
    obtain ⟨k, hk, rfl, kh, ko, hTw, hb⟩ := hrel
    by_cases hkt : k < L.length
    · have hk1 : (k : Int) < (L.length : Int) := by omega
      obtain ⟨g, off, rfl, hc⟩ := Hf.out (by omega)
      have hcell := BW_cell hb (hc k hkt)
      have hle := allB_le L k hkt
      have hk64 : wrap64 ((k : Int) + 1) = (k : Int) + 1 := by unfold wrap64; omega
      have Hsu := Lib.hid (allB_succ L k hkt)
      clear hc
      generalize L[k] = s at *
      go_wp2_with fail
      refine (write_any gh KK BG _ s _ (Lib.hid rfl) kh (by omega) (Nat.lt_trans h1w hge.out) (Lib.hid hTw.out.2)).mono ?_
      rintro e w3 ⟨rfl, hs3, hg3⟩
      have ko3 := ko.grown hg3 (Nat.ne_of_lt hge.out).symm
      have hT3 := Lib.hid (hTw.out.grown hg3 (Nat.lt_trans h1w hge.out))
      have hb3 := Below.grownA hb hg3 (Nat.le_of_lt hge.out)
      go_wp2_with fail
      go_roundw
      case rel => exact ⟨k + 1, by omega, by go_num, Lib.hid (by rw [Hsu.out]; exact hs3), ko3, hT3, hb3⟩
      case measure => simp [intOf]; omega
    · obtain rfl : k = L.length := by omega
      rw [List.take_length] at kh
      go_wp2_with fail
      refine (sum_any gh _ _ kh hTw hT).mono ?_
      rintro e w4 ⟨rfl, hb4⟩
      replace ko := ko.on hb4
      replace hb := BW_on hb hb4
      unfold shaV
      have hl32 : (U8s (sha (allB L))).length = 32 := by simp [U8s, sha, bytesOf]
      have hone : Hid ((U8s (sha (allB L))).toArray.all (·.oneCell') = true) := all_oneCell_toArray (U8s_one _)
      generalize hcs' : U8s (sha (allB L)) = cs at *
      have Hcs := Lib.hid hcs'
      clear hcs'
      have Hth : Hid (w4.there w.heap.size 0 cs.toArray.size) := fun j hj => by
        rw [List.size_toArray, hl32] at hj
        rw [Nat.zero_add]
        exact ⟨by rw [ko.cell, Array.getElem?_eq_getElem hj]; rfl, ko.free j⟩
      have hsz : Hid ((Tryd.prog.info? 66).map (·.size) = some cs.toArray.size) := by rw [List.size_toArray, hl32]; exact b32_size
      have kf := Lib.hid (setCells_all ko cs (by rw [hl32]; rfl))
      have hbf := below_setCells cs 0 _ hb (Nat.le_refl _)
      clear ko hb hb4 hl32
      go_wp2_with (first | (refine wpList_store_mid rfl 66 _ _ rfl w.heap.size 0 cs.toArray rfl rfl Hth.out hsz.out hone.out ?_))
      exact bodyPost_ret (results_cell_row Tryd.results51 _ _ w.heap.size 66 _ (0, 0) _ (by rfl) kf.out Tryd.underlying66 rfl hsz.out) rfl ⟨by rw [← Hcs.out]; rfl, hbf⟩
end Go.Proofs.YtbimnfmjgmfijaaDoor

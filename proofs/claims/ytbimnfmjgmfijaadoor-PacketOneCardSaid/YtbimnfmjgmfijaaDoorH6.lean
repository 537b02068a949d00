/- Contracts of the hash: a zero hasher written to; texts of hashes; hashes in order; hashes of several texts. -/
import Derived.Test.YtbimnfmjgmfijaaDoorH5
import Derived.Deep.CutBlock
namespace Go.Proofs.YtbimnfmjgmfijaaDoor
open Go.RowKit
attribute [local go_sem ↓] Go.wp_at_zero Go.wp_at_succ
set_option maxHeartbeats 4000000 in
set_option maxRecDepth 100000 in
theorem write_zero (g : Nat) (s : ByteArray) (w : World) (kh : Blk w g 102 (hcs [0, 0, 0, 0, 0, 0, 0, 0] z64 0 false)) (ht : Hid (Tabs w)) (hs : s.size ≤ 1000000000) (hg1 : 2 < g) :
    Calls Tryd.prog 69 #[.pointer (some ⟨g, 0, none⟩), .string s] w fun e w' => e = .returned (.tuple #[]) ∧ HSt KK BG w' g (bysN s) ∧ w.grownBy w' (some g) := by
  have hK := Lib.hid ht.out.2
  have hM0 : True := trivial
  clear hM0
  have cm : w.cell? ⟨g, 73, none⟩ = some (.bool false) := (kh.cell 73).trans rfl
  go_enter Tryd.func69, Tryd.ntmps69
  go_wp2_with fail
  refine (new_any _ ht.out).mono ?_
  rintro e w1 ⟨rfl, hw1⟩
  have hgl : Hid (g < w.heap.size) := kh.lt
  have ke : Blk w1 w.heap.size 102 (hcs BG z64 0 true) := by rw [hw1]; exact blk1 _ _ _
  have k8 : Blk w1 g 102 (hcs [0, 0, 0, 0, 0, 0, 0, 0] z64 0 false) := by rw [hw1]; exact kh.alloc (.cells (hcs BG z64 0 true) 102)
  have hgr1 : Hid (w.grownBy w1 (some g)) := by rw [hw1]; exact World.grownBy_alloc _ _ _
  clear hw1 kh
  have hl74 : (hcs BG z64 0 true).toList.length = 74 := rfl
  have Hr8 : Hid (w1.rangeAt w.heap.size 0 (hcs BG z64 0 true).toList) := fun j v hj => by rw [Nat.zero_add, ke.cell]; simpa using hj
  have Hth : Hid (w1.there g 0 (hcs BG z64 0 true).toList.toArray.size) := fun j hj => by
    rw [Nat.zero_add]
    refine ⟨?_, k8.free j⟩
    rw [k8.cell]
    have : j < (hcs [0, 0, 0, 0, 0, 0, 0, 0] z64 0 false).size := hj
    rw [Array.getElem?_eq_getElem this]; rfl
  have hsz : Hid ((Tryd.prog.info? 102).map (·.size) = some (hcs BG z64 0 true).toList.length) := hs_size
  have hsz2 : Hid ((Tryd.prog.info? 102).map (·.size) = some (hcs BG z64 0 true).toList.toArray.size) := hs_size
  have hone2 : Hid ((hcs BG z64 0 true).toList.toArray.all (·.oneCell') = true) := by rw [Array.toArray_toList]; exact all_oneCell (hcs_one _ _ _ _)
  have ke2 := setCells_all k8 (hcs BG z64 0 true).toList rfl
  rw [Array.toArray_toList] at ke2
  have hgW : Hid (HSt KK BG (w1.setCells g 0 (hcs BG z64 0 true).toList) g []) := HSt.mk0 ke2
  have hgrW : Hid (w.grownBy (w1.setCells g 0 (hcs BG z64 0 true).toList) (some g)) := grown_cells _ _ hgr1.out
  have hlen : ([] : List Nat).length + s.size ≤ 1152921504606846976 := by rw [List.length_nil]; omega
  clear ke k8 cm hl74 ke2
  generalize (hcs BG z64 0 true).toList = l74 at *
  go_upto_block 0 with (first | (refine wpList_load_mid rfl 102 _ rfl w.heap.size 0 rfl l74 _ Hr8.out Tryd.underlying102 rfl hsz.out ?_) | (refine wpList_store_mid rfl 102 _ _ rfl g 0 l74.toArray rfl rfl Hth.out hsz2.out hone2.out ?_))
  clear Hr8 Hth hsz hsz2 hone2 hgr1
  have hBg : Hid (BG.length = 8) := rfl
  change Code.wp _ _ _ _ (w1.setCells g 0 l74)
  generalize w1.setCells g 0 l74 = W at *
  go_wp2_with fail
  simp only [Act.put]
  go_loopw [1] (fun u wi => ∃ (t : ByteArray) (N : List Nat), u = .string t ∧ Hid (HSt KK BG wi g N) ∧ Hid (N ++ bysN t = bysN s) ∧ Hid (w.grownBy wi (some g)) ∧ N.length + t.size ≤ 1152921504606846976) (fun u _ => strOf u)
  case atStart => exact ⟨s, [], rfl, hgW, rfl, hgrW, hlen⟩
  case round =>
    obtain ⟨t, N, rfl, hN, hMN, hgr, hnl⟩ := hrel
    by_cases ht : t.size = 0
    · obtain rfl := size_zero ht
      have hMN2 := hMN.out
      rw [show bysN ⟨#[]⟩ = [] from rfl, List.append_nil] at hMN2
      have HMN2 := Lib.hid hMN2
      clear hMN2
      go_wp2_with fail
      refine bodyPost_end (v := .tuple #[]) (results_none (by rfl) _ _ _) rfl ⟨rfl, by rw [← HMN2.out]; exact hN.out, hgr.out⟩
    · obtain ⟨B, hB, hB8, hBt, kh⟩ := hN.out
      have hX := blks_len KK BG hBg.out N (N.length / 64)
      have hmod : (N.length : Int).tmod 64 = ((N.length % 64 : Nat) : Int) := by rw [Int.tmod_eq_emod_of_nonneg (by omega)]; omega
      have hal : N.length % 64 < 64 := Nat.mod_lt _ (by decide)
      have hstep := fun k => HSt_step KK BG N t B k hB hB8 hBt
      have cn := (kh.cell 72).trans (hcs_n hX hB)
      clear hBt
      generalize N.length % 64 = a at *
      generalize blks KK BG N (N.length / 64) = X at *
      obtain ⟨k, hk⟩ : ∃ k, k = Nat.min t.size (64 - a) := ⟨_, rfl⟩
      have hkle : k ≤ t.size := by rw [hk]; exact Nat.min_le_left _ _
      have hkle2 : k ≤ 64 - a := by rw [hk]; exact Nat.min_le_right _ _
      have hk0 : 0 < k := by rw [hk]; exact Nat.lt_min.2 ⟨by omega, by omega⟩
      have Hstep := Lib.hid (hstep k hkle hkle2)
      have hsl := slice_from g a hal
      have hcp := run_copy_str (P := Tryd.prog) wr 37 9 3 5 g (8 + a) (64 - a) (64 - a) k t _ 102 Tryd.underlying37 one_u8 kh hk (by rw [hcs_size hX hB]; omega)
      rw [hcs_copy hX hB (by omega)] at hcp
      have hB2 : (List.take a B ++ (bysN t).take k ++ B.drop (a + k)).length = 64 := by
        rw [List.length_append, List.length_append, List.length_take, List.length_take, List.length_drop, hB, bysN_len, Nat.min_eq_left (by omega), Nat.min_eq_left hkle]; omega
      generalize List.take a B ++ (bysN t).take k ++ B.drop (a + k) = B2 at *
      have kv : Blk (wr.setRow g (hcs X B2 (N.length : Int) true)) g 102 (hcs X B2 (N.length : Int) true) := setRow_heap wr g _ _ 102 _ kh
      have hgv := Lib.hid (grown_row hgr.out (hcs X B2 (N.length : Int) true))
      generalize wr.setRow g (hcs X B2 (N.length : Int) true) = V at *
      have cv := (kv.cell 72).trans (hcs_n hX hB2)
      have fv := kv.free 72
      have hw64 : wrap64 ((N.length : Int) + (k : Int)) = (N.length : Int) + (k : Int) := by unfold wrap64; omega
      clear hstep
      have hki : (k : Int) ≤ (t.size : Int) := by omega
      have hte := ne_nil ht
      have Hk := Lib.hid hk
      have HB2 := Lib.hid hB2
      have HX := Lib.hid hX
      have hext := bysN_extract t k t.size
      rw [List.take_of_length_le (by rw [bysN_len]; exact Nat.le_refl _)] at hext
      have Hext := Lib.hid hext
      clear hk hB hB8 hB2 hX kh hext
      have hext2 : (t.extract k t.size).size = t.size - k := by simp
      have Hext2 := Lib.hid hext2
      clear hext2
      by_cases h64' : a + k = 64
      · have hq : ((a : Int) + (k : Int) == 64) = true := by simp; omega
        go_wp2_with fail
        clear cn cv fv hcp hsl
        have kset := kv.set_ 72 (.int .i64 ((N.length : Int) + (k : Int)))
        rw [hcs_setn HX.out HB2.out] at kset
        have hg2 := grown_set hgv.out 72 (.int .i64 ((N.length : Int) + (k : Int)))
        refine (block_any g X B2 _ true KK _ HX.out HB2.out Hstep.out.1 kset (fun i hi => hg2.cell (hK.out i hi) (fun e => absurd (show 2 = g from Option.some.inj e) (by omega)))).mono ?_
        rintro e w3 ⟨rfl, kb, hg3⟩
        go_wp2_with fail
        go_roundw
        case rel => exact ⟨_, N ++ (bysN t).take k, rfl, Lib.hid (Hstep.out.2.2 h64' _ _ kb), Lib.hid (by rw [List.append_assoc, Hext.out, List.take_append_drop]; exact hMN.out), Lib.hid (grown_trans hg2 hg3), by rw [List.length_append, List.length_take, bysN_len, Nat.min_eq_left hkle, Hext2.out]; omega⟩
        case measure => show (t.extract k t.size).size < t.size; rw [Hext2.out]; omega
      · have hq : ((a : Int) + (k : Int) == 64) = false := by simp; omega
        have h65 : a + k < 64 := by omega
        go_wp2_with fail
        clear cn cv fv hcp hsl
        have kset := kv.set_ 72 (.int .i64 ((N.length : Int) + (k : Int)))
        rw [hcs_setn HX.out HB2.out] at kset
        have hg2 := grown_set hgv.out 72 (.int .i64 ((N.length : Int) + (k : Int)))
        go_roundw
        case rel => exact ⟨_, N ++ (bysN t).take k, rfl, Lib.hid (Hstep.out.2.1 h65 _ _ kset), Lib.hid (by rw [List.append_assoc, Hext.out, List.take_append_drop]; exact hMN.out), Lib.hid hg2, by rw [List.length_append, List.length_take, bysN_len, Nat.min_eq_left hkle, Hext2.out]; omega⟩
        case measure => show (t.extract k t.size).size < t.size; rw [Hext2.out]; omega
end Go.Proofs.YtbimnfmjgmfijaaDoor

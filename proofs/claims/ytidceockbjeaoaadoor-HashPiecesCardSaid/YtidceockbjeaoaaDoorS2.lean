/- The seal's inner functions: a key's block; a block put to a byte. -/
import Derived.Test.YtidceockbjeaoaaDoorS1
namespace Go.Proofs.YtidceockbjeaoaaDoor
open Go.RowKit
attribute [local go_sem ↓] Go.wp_at_zero Go.wp_at_succ
theorem slice_all64 (g : Nat) (w : World) :
    (Instr.sliceAt 48 (.pointer (some ⟨g, 0, none⟩)) none none none).run Tryd.prog w = .ok (.slice (some ⟨g, 0, none⟩) 64 64) w := by
  have h := run_sliceAt_array_all (P := Tryd.prog) w 48 ⟨g, 0, none⟩ und64
  have hs : (sizeOf (Tryd.prog.elem 48)).run Tryd.prog w = .ok 1 w := by kernel_rfl
  rw [h, hs]
  simp only [Result.andThen, slicedAt, len64]
  rw [if_neg (by decide), addr_add]
theorem idx64 (B : List Nat) (hB : B.length = 64) (k : Nat) (hk : k < 64) (w : World) :
    (Instr.index 48 (.agg (U8s B).toArray) (.int .i64 (k : Int))).run Tryd.prog w = .ok (.int .u8 ((B.getD k 0 : Nat) : Int)) w := by
  have hc := U8s_at (l := B) (i := k) (by omega)
  have hu : Tryd.prog.underlying 48 = some (.array 64 5) := by kernel_rfl
  have hc2 : (U8s B)[k]? = some (.int .u8 ((B.getD k 0 : Nat) : Int)) := by simpa using hc
  simp [Instr.index, run_underlying hu, asIntOf, go_sem]
  rw [if_pos hk, hc2]
  simp
theorem b64_size : (Tryd.prog.info? 48).map (·.size) = some 64 := by kernel_rfl
theorem z64_len : z64.length = 64 := rfl
theorem U8s_len (L : List Nat) : (U8s L).length = L.length := by simp [U8s]
set_option maxHeartbeats 4000000 in
set_option maxRecDepth 100000 in
theorem sblock_any (key : ByteArray) (w : World) (h1 : key.size ≤ 1000000) (ht : Hid (Tabs w)) :
    Calls Tryd.prog 43 #[.string key] w fun e w' => e = .returned (.agg (U8s (kb (bysN key))).toArray) ∧ Below w.heap.size w w' := by
  go_enter Tryd.func43, Tryd.ntmps43
  have kr := blk1 w 48 (U8s z64).toArray
  have hb := BW_alloc (BW_refl w) (.cells (U8s z64).toArray 48)
  have hT := ht.out.on hb
  go_upto_if 6 with (fail)
  change Code.wp _ _ _ _ (w.alloc (.cells (U8s z64).toArray 48))
  generalize w.alloc (.cells (U8s z64).toArray 48) = W at *
  go_cut [0] (fun s0 wx => (∃ k1 : ByteArray, s0 = .string k1 ∧ bysN k1 = kx (bysN key)) ∧ Blk wx w.heap.size 48 (U8s z64).toArray ∧ Below w.heap.size w wx)
  case first =>
    by_cases hk : 64 < key.size
    · have hk1 : (64 : Int) < (key.size : Int) := by omega
      go_wp2_with fail
      refine (hof_any _ [key] _ (Lib.hid (strs1 _ _)) (Lib.hid (hT.on (BW_alloc (BW_refl _) _))) (by show (bysN key ++ []).length ≤ _; rw [List.append_nil, bysN_len]; omega) (by show 1 ≤ 9223372036854775807; decide)).mono ?_
      rintro e w2 ⟨rfl, hb2⟩
      have Hsh := Lib.hid (sha_IsH (bysN key))
      rw [show allB [key] = bysN key from List.append_nil _, show shaV (bysN key) = .agg (U8s (sha (bysN key))).toArray from rfl]
      go_wp2_with fail
      refine (text_any _ Hsh.out _).mono ?_
      rintro e w3 ⟨rfl, hb3⟩
      go_wp2_with fail
      go_meet
      exact ⟨⟨_, rfl, by rw [bysN_byt Hsh.out.2]; unfold kx; rw [if_pos (by rw [bysN_len]; exact hk)]⟩, ((kr.alloc _).on hb2).on hb3, BW_on (BW_on (BW_alloc hb _) hb2) hb3⟩
    · have hk1 : ¬ (64 : Int) < (key.size : Int) := by omega
      go_wp2_with fail
      go_meet
      exact ⟨⟨key, rfl, by unfold kx; rw [if_neg (by rw [bysN_len]; exact hk)]⟩, kr, hb⟩
  case rest =>
  clear kr hb hT ht
  obtain ⟨⟨k1, rfl, hk1⟩, kr, hb⟩ := hcut
  have hkl : k1.size ≤ 64 := by rw [← bysN_len, hk1]; exact kx_le _
  have hres : (U8s z64).toArray.toList.take 0 ++ (Lib.byteCells k1.data.toList).take k1.size ++ (U8s z64).toArray.toList.drop (0 + k1.size) = U8s (kb (bysN key)) := by
    rw [List.take_zero, List.nil_append, Nat.zero_add, List.take_of_length_le (by rw [← U8s_bysN, U8s_len, bysN_len]; exact Nat.le_refl _), ← U8s_bysN, hk1]
    unfold kb
    rw [U8s_app, ← hk1, bysN_len]
    congr 1
    show (U8s z64).drop k1.size = _
    unfold z64 U8s
    rw [← List.map_drop, List.drop_replicate]
  have hsl8 := slice_all64 wc.heap.size
  have kb2 := blk1 wc 48 (U8s z64).toArray
  have kr2 := kr.alloc (.cells (U8s z64).toArray 48)
  have hb2 := BW_alloc hb (.cells (U8s z64).toArray 48)
  have hcp := run_copy_str (P := Tryd.prog) (wc.alloc (.cells (U8s z64).toArray 48)) 24 9 3 5 wc.heap.size 0 64 64 k1.size k1 _ 48 Tryd.underlying24 one_u8 kb2 (Nat.min_eq_left hkl).symm (by show 0 + k1.size ≤ 64; omega)
  rw [hres] at hcp
  have Hk := Lib.hid (kb_len (bysN key))
  generalize hkB : kb (bysN key) = B at *
  have HkB := Bx.mk hkB
  clear hkB
  have kv : Blk ((wc.alloc (.cells (U8s z64).toArray 48)).setRow wc.heap.size (U8s B).toArray) wc.heap.size 48 (U8s B).toArray := setRow_heap _ wc.heap.size _ _ 48 _ kb2
  have hg := grown_row (World.grownBy.refl (wc.alloc (.cells (U8s z64).toArray 48)) (some wc.heap.size)) (U8s B).toArray
  have kr3 := kr2.grown hg (Nat.ne_of_gt kr.lt)
  have hb3 := Below.grownA hb2 hg hb.size
  clear hres hk1 kb2 kr2 hb2 hg kr
  generalize hV : (wc.alloc (.cells (U8s z64).toArray 48)).setRow wc.heap.size (U8s B).toArray = V at *
  have hlen : (U8s B).length = 64 := by rw [U8s_len]; exact Hk.out
  have Hr : Hid (V.rangeAt wc.heap.size 0 (U8s B)) := fun j v hj => by rw [Nat.zero_add, kv.cell]; simpa using hj
  have Hth : Hid (V.there w.heap.size 0 (U8s B).toArray.size) := fun j hj => by
    rw [List.size_toArray, hlen] at hj
    rw [Nat.zero_add]
    exact ⟨by rw [kr3.cell, U8s_at (l := z64) hj]; rfl, kr3.free j⟩
  have hsz : Hid ((Tryd.prog.info? 48).map (·.size) = some (U8s B).length) := by rw [hlen]; exact b64_size
  have hsz2 : Hid ((Tryd.prog.info? 48).map (·.size) = some (U8s B).toArray.size) := by rw [List.size_toArray, hlen]; exact b64_size
  have hone : Hid ((U8s B).toArray.all (·.oneCell') = true) := all_oneCell_toArray (U8s_one _)
  have ko := Lib.hid (setCells_all kr3 (U8s B) (by rw [hlen]; rfl))
  have hbf := Lib.hid (below_setCells (U8s B) 0 _ hb3 (Nat.le_refl _))
  have Hund : Hid (Tryd.prog.underlying 48 = some (.array 64 5)) := Lib.hid (by kernel_rfl)
  go_upto_region 4 with (fail)
  change Code.wp _ _ _ _ (wc.alloc (.cells (U8s z64).toArray 48))
  generalize wc.alloc (.cells (U8s z64).toArray 48) = Y at *
  go_wp2_with (first | (refine wpList_load_mid rfl 48 _ rfl wc.heap.size 0 rfl (U8s B) _ Hr.out Hund.out rfl hsz.out ?_) | (refine wpList_store_mid rfl 48 _ _ rfl w.heap.size 0 (U8s B).toArray rfl rfl Hth.out hsz2.out hone.out ?_))
  refine bodyPost_ret (v := .agg (U8s B).toArray) (results_cell_row Tryd.results43 _ _ w.heap.size 48 _ (0, 0) _ (by rfl) ko.out Hund.out rfl hsz2.out) rfl ⟨by rw [HkB.out], hbf.out⟩
end Go.Proofs.YtidceockbjeaoaaDoor

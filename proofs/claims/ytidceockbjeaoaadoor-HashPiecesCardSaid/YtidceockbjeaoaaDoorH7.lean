/- Contracts of the hash: a hash's text; read back; hashes in order. -/
import Derived.Test.YtidceockbjeaoaaDoorH6
import Derived.Laws.ResultCell
namespace Go.Proofs.YtidceockbjeaoaaDoor
open Go.RowKit
attribute [local go_sem ↓] Go.wp_at_zero Go.wp_at_succ
def byt (L : List Nat) : ByteArray := ⟨(L.map UInt8.ofNat).toArray⟩
def IsH (L : List Nat) : Prop := L.length = 32 ∧ ∀ b ∈ L, b < 256
theorem bysN_byt {L : List Nat} (h : ∀ b ∈ L, b < 256) : bysN (byt L) = L := by
  simp only [bysN, byt, List.map_map]
  refine (List.map_congr_left fun b hb => ?_).trans (List.map_id L)
  show (UInt8.ofNat b).toNat = b
  rw [UInt8.toNat_ofNat']
  exact Nat.mod_eq_of_lt (h b hb)
theorem byt_bysN (s : ByteArray) : byt (bysN s) = s := by
  apply ByteArray.ext
  show ((s.data.toList.map UInt8.toNat).map UInt8.ofNat).toArray = s.data
  rw [List.map_map, show UInt8.ofNat ∘ UInt8.toNat = id from funext fun x => UInt8.ofNat_toNat, List.map_id, Array.toArray_toList]
theorem byt_inj {L M : List Nat} (hL : ∀ b ∈ L, b < 256) (hM : ∀ b ∈ M, b < 256) (h : byt L = byt M) : L = M := by
  rw [← bysN_byt hL, h, bysN_byt hM]
theorem byt_size (L : List Nat) : (byt L).size = L.length := by simp [byt, ByteArray.size]
theorem conv_byt (g : Nat) (t : TypeId) (L : List Nat) (hL : ∀ b ∈ L, b < 256) (c : Nat) (w' : World) (kb : Blk w' g t (U8s L).toArray) : (convert 24 9 (.slice (some ⟨g, 0, none⟩) L.length c)).run Tryd.prog w' = .ok (.string (byt L)) w' := by
  have h := run_convert_bytes_back (P := Tryd.prog) w' 24 9 5 ⟨g, 0, none⟩ c (L.map fun b => UInt8.ofNat b) Tryd.underlying24 Tryd.underlying5 Tryd.underlying9 (fun j hj => by
    have hj2 : j < L.length := by simpa using hj
    rw [addr_add, Nat.zero_add, kb.cell, U8s_at hj2, List.getElem_map, UInt8.toNat_ofNat', Nat.mod_eq_of_lt (hL _ (List.getElem_mem hj2)), List.getD_eq_getElem?_getD, List.getElem?_eq_getElem hj2]
    rfl)
  rw [List.length_map] at h
  exact h
theorem len_b32 : Tryd.prog.arrayLen 26 = 32 := by kernel_rfl
theorem und_b32 : Tryd.prog.underlying 26 = some (.array (Tryd.prog.arrayLen 26) (Tryd.prog.elem 26)) := by kernel_rfl
theorem slice_all32 (g : Nat) (w : World) :
    (Instr.sliceAt 26 (.pointer (some ⟨g, 0, none⟩)) none none none).run Tryd.prog w = .ok (.slice (some ⟨g, 0, none⟩) 32 32) w := by
  have h := run_sliceAt_array_all (P := Tryd.prog) w 26 ⟨g, 0, none⟩ und_b32
  have hs : (sizeOf (Tryd.prog.elem 26)).run Tryd.prog w = .ok 1 w := by kernel_rfl
  rw [h, hs]
  simp only [Result.andThen, slicedAt, len_b32]
  rw [if_neg (by decide), addr_add]
set_option maxRecDepth 100000 in
theorem text_any (L : List Nat) (hL : IsH L) (w : World) : Calls Tryd.prog 20 #[.agg (U8s L).toArray] w fun e w' => e = .returned (.string (byt L)) ∧ Below w.heap.size w w' := by
  have hcv := conv_byt w.heap.size 26 L hL.2 32 (w.alloc (.cells (U8s L).toArray 26)) (blk1 w _ _)
  rw [hL.1] at hcv
  have hsl := slice_all32 w.heap.size
  go_enter Tryd.func20, Tryd.ntmps20
  go_wp2_with fail
  go_ret
  exact ⟨rfl, BW_alloc (BW_refl w) _⟩
theorem range_on {w w' : World} {g o : Nat} {cs : List Value} (h : w.rangeAt g o cs) (hb : Below w.heap.size w w') : w'.rangeAt g o cs := fun j v hj => BW_cell hb (h j v hj)
theorem ls_on {w w' w'' : World} {a b : Nat} {l m : List Value} (h : w'.rangeAt a 0 l ∧ w'.rangeAt b 0 m ∧ Below w.heap.size w w') (hb : Below w'.heap.size w' w'') : w''.rangeAt a 0 l ∧ w''.rangeAt b 0 m ∧ Below w.heap.size w w'' :=
  ⟨range_on h.1 hb, range_on h.2.1 hb, BW_on h.2.2 hb⟩
theorem und_b32' : Tryd.prog.underlying 26 = some (.array 32 5) := by kernel_rfl
set_option maxHeartbeats 1000000 in
set_option maxRecDepth 100000 in
theorem less_any (L M : List Nat) (hL : IsH L) (hM : IsH M) (w : World) : Calls Tryd.prog 19 #[.agg (U8s L).toArray, .agg (U8s M).toArray] w fun e w' => e = .returned (.bool (Op.bytesLess (byt L).toList (byt M).toList)) ∧ Below w.heap.size w w' := by
  have hTL := Lib.hid (text_any L hL)
  have hTM := Lib.hid (text_any M hM)
  have hl1 : (U8s L).length = 32 := by rw [show (U8s L).length = L.length by simp [U8s]]; exact hL.1
  have hl2 : (U8s M).length = 32 := by rw [show (U8s M).length = M.length by simp [U8s]]; exact hM.1
  have h1 := Lib.hid (U8s_one L)
  have h2 := Lib.hid (U8s_one M)
  clear hL hM
  generalize U8s L = l at *
  generalize U8s M = m at *
  go_enter Tryd.func19, Tryd.ntmps19
  go_wp2_with fail
  have hrA : ((w.alloc (.cells l.toArray 26)).alloc (.cells m.toArray 26)).rangeAt w.heap.size 0 l := fun j v hj => by
    rw [Nat.zero_add, ((blk1 w 26 l.toArray).alloc (.cells m.toArray 26)).cell]; simpa using hj
  have hrB : ((w.alloc (.cells l.toArray 26)).alloc (.cells m.toArray 26)).rangeAt (w.heap.size + 1) 0 m := fun j v hj => by
    rw [Nat.zero_add, (blk2 w (.cells l.toArray 26) 26 m.toArray).cell]; simpa using hj
  have hb := BW_alloc (BW_alloc (BW_refl w) (.cells l.toArray 26)) (.cells m.toArray 26)
  generalize (w.alloc (.cells l.toArray 26)).alloc (.cells m.toArray 26) = W at *
  generalize w.heap.size + 1 = gb at *
  have hu := und_b32'
  have hs1 : (Tryd.prog.info? 26).map (·.size) = some l.length := by rw [hl1]; exact b32_size
  have hs2 : (Tryd.prog.info? 26).map (·.size) = some m.length := by rw [hl2]; exact b32_size
  have ho1 := h1.out
  have ho2 := h2.out
  refine wp_region_held_drew (S := fun w' => w'.rangeAt w.heap.size 0 l ∧ w'.rangeAt gb 0 m ∧ Below w.heap.size w w') (by kernel_rfl) ⟨(World.rangeAt_drew _ _ _ _).2 hrA, (World.rangeAt_drew _ _ _ _).2 hrB, hb.drew⟩ (fun hHeld => ?_)
  refine wpAnyH_take (i := 0) (v := .agg l.toArray) rfl (by kernel_rfl) (by kernel_rfl) (by kernel_rfl) (fun _ _ _ h => h) (yieldsIf_load_mid (by rfl) _ _ rfl _ _ rfl l _ (fun _ h => h.1) hu rfl hs1) hHeld ?_
  refine wpAnyH_take (i := 2) (v := .agg m.toArray) rfl (by kernel_rfl) (by kernel_rfl) (by kernel_rfl) (fun _ _ _ h => h) (yieldsIf_load_mid (by rfl) _ _ rfl _ _ rfl m _ (fun _ h => h.2.1) hu rfl hs2) hHeld ?_
  refine wpAnyH_ready (rs := [1]) (by kernel_rfl) (by simp) ?_
  refine AllReadyH.cons rfl (fun K hK => ?_) AllReadyH.nil
  clear hrA hrB
  go_simp
  go_at_call 20
  refine (hTL.out _).mono ?_
  rintro e w3 ⟨rfl, hd⟩
  go_wp2_with fail
  refine hK.out _ _ (ls_on hHeld hd) (fun hHeld2 => ?_)
  clear hK K
  refine wpAnyH_ready (rs := [3]) (by kernel_rfl) (by simp) ?_
  refine AllReadyH.cons rfl (fun K hK => ?_) AllReadyH.nil
  go_simp
  go_at_call 20
  refine (hTM.out _).mono ?_
  rintro e w4 ⟨rfl, hd4⟩
  go_wp2_with fail
  refine hK.out _ _ (ls_on hHeld2 hd4) (fun hHeld3 => ?_)
  clear hK K
  refine wpAnyH_take (i := 4) (v := .bool (Op.bytesLess (byt L).toList (byt M).toList)) rfl (by kernel_rfl) (by kernel_rfl) (by kernel_rfl) (fun _ _ _ h => h) (Or.inl ⟨by rfl, fun w' _ => by go_simp⟩) hHeld3 ?_
  refine wpAnyH_take (i := 5) (v := .bool (Op.bytesLess (byt L).toList (byt M).toList)) rfl (by kernel_rfl) (by kernel_rfl) (by kernel_rfl) (fun _ _ _ h => h) (Or.inl ⟨by rfl, fun w' _ => by go_simp⟩) hHeld3 ?_
  refine wpAnyH_done (by kernel_rfl) ?_ _
  go_wp2_with fail
  go_ret
  exact ⟨rfl, hHeld3.2.2⟩
theorem res2 {fn : Func} {p u : Tmp} (h : fn.results = #[.cell p 26, .tmp u]) (tmps : Array Value) (w : World) (g : Nat) (t : TypeId) (cs : Array Value) (v : Value)
    (hp : tmps.getD p undef = .pointer (some ⟨g, 0, none⟩)) (hv : tmps.getD u undef = v) (hg : Blk w g t cs) (hi : (Tryd.prog.info? 26).map (·.size) = some cs.size) :
    (results fn tmps).run Tryd.prog w = .ok (.tuple #[.agg cs, v]) w := by
  rw [results_cell_tmp h, hp, hv]
  simp [asAddr, run_loadVar_row w g t 26 cs (0, 0) _ hg Tryd.underlying26 rfl hi]
set_option maxHeartbeats 1000000 in
set_option maxRecDepth 100000 in
theorem from_no (s : ByteArray) (hs : ¬ s.size = 32) (w : World) : Calls Tryd.prog 27 #[.string s] w fun e w' => e = .returned (.tuple #[.agg (U8s z32).toArray, .int .i64 10]) ∧ Below w.heap.size w w' := by
  have hs2 : ((s.size : Int) != 32) = true := by simp; omega
  have k1 := (blk1 w 26 (U8s z32).toArray).alloc (.cells (U8s z32).toArray 26)
  have hb := BW_alloc (BW_alloc (BW_refl w) (.cells (U8s z32).toArray 26)) (.cells (U8s z32).toArray 26)
  clear hs
  go_enter Tryd.func27, Tryd.ntmps27
  go_upto_region 2 with (fail)
  change Code.wp _ _ _ _ ((w.alloc (.cells (U8s z32).toArray 26)).alloc (.cells (U8s z32).toArray 26))
  generalize (w.alloc (.cells (U8s z32).toArray 26)).alloc (.cells (U8s z32).toArray 26) = W at *
  have Hth : Hid (W.there w.heap.size 0 (U8s z32).toArray.size) := fun j hj => by
    rw [Nat.zero_add]
    exact ⟨by rw [k1.cell, Array.getElem?_eq_getElem hj]; rfl, k1.free j⟩
  have hone : Hid ((U8s z32).toArray.all (·.oneCell') = true) := all_oneCell_toArray (U8s_one _)
  have ko := Lib.hid (setCells_all k1 (U8s z32) rfl)
  have hbf := below_setCells (U8s z32) 0 _ hb (Nat.le_refl _)
  have hsz : Hid ((Tryd.prog.info? 26).map (·.size) = some (U8s z32).toArray.size) := b32_size
  clear k1 hb
  go_wp2_with (first | (refine wpList_store_mid rfl 26 _ _ rfl w.heap.size 0 (U8s z32).toArray rfl rfl Hth.out hsz.out hone.out ?_))
  exact bodyPost_ret (res2 Tryd.results27 _ _ w.heap.size 26 _ _ (by rfl) (by rfl) ko.out hsz.out) rfl ⟨rfl, hbf⟩
set_option maxHeartbeats 1000000 in
set_option maxRecDepth 100000 in
theorem from_yes (s : ByteArray) (hs : s.size = 32) (w : World) : Calls Tryd.prog 27 #[.string s] w fun e w' => e = .returned (.tuple #[.agg (U8s (bysN s)).toArray, .int .i64 0]) ∧ Below w.heap.size w w' := by
  have hs2 : ((s.size : Int) != 32) = false := by simp; omega
  have hsl := slice_all32 (w.heap.size + 1)
  have k1 := (blk1 w 26 (U8s z32).toArray).alloc (.cells (U8s z32).toArray 26)
  have k2 := blk2 w (.cells (U8s z32).toArray 26) 26 (U8s z32).toArray
  have hb := BW_alloc (BW_alloc (BW_refl w) (.cells (U8s z32).toArray 26)) (.cells (U8s z32).toArray 26)
  have hlb : (U8s (bysN s)).length = 32 := by rw [show (U8s (bysN s)).length = (bysN s).length by simp [U8s], bysN_len]; exact hs
  go_enter Tryd.func27, Tryd.ntmps27
  go_upto_region 2 with (fail)
  change Code.wp _ _ _ _ ((w.alloc (.cells (U8s z32).toArray 26)).alloc (.cells (U8s z32).toArray 26))
  generalize (w.alloc (.cells (U8s z32).toArray 26)).alloc (.cells (U8s z32).toArray 26) = W at *
  have hcp := run_copy_str (P := Tryd.prog) W 24 9 3 5 (w.heap.size + 1) 0 32 32 32 s _ 26 Tryd.underlying24 one_u8 k2 (by rw [hs]; rfl) (by decide)
  have e1 : ((U8s z32).toArray.toList.take 0 ++ (Lib.byteCells s.data.toList).take 32 ++ (U8s z32).toArray.toList.drop (0 + 32)).toArray = (U8s (bysN s)).toArray := by
    rw [← U8s_bysN, List.take_zero, List.nil_append, List.take_of_length_le (by rw [hlb]; exact Nat.le_refl _), List.drop_of_length_le (by decide), List.append_nil]
  rw [e1] at hcp
  have kv := setRow_heap W (w.heap.size + 1) _ (U8s (bysN s)).toArray 26 _ k2
  have kr : Blk (W.setRow (w.heap.size + 1) (U8s (bysN s)).toArray) w.heap.size 26 (U8s z32).toArray := k1.grown (grown_row (World.grownBy.refl W (some (w.heap.size + 1))) _) (by omega)
  have hbv : Below w.heap.size w (W.setRow (w.heap.size + 1) (U8s (bysN s)).toArray) := hb.grown (grown_row (World.grownBy.refl W (some (w.heap.size + 1))) _) hb.size (fun k e => by cases e; omega)
  generalize W.setRow (w.heap.size + 1) (U8s (bysN s)).toArray = V at *
  have Hr : Hid (V.rangeAt (w.heap.size + 1) 0 (U8s (bysN s))) := fun j v hj => by rw [Nat.zero_add, Blk.cell kv]; simpa using hj
  have Hth : Hid (V.there w.heap.size 0 (U8s (bysN s)).toArray.size) := fun j hj => by
    rw [List.size_toArray, hlb] at hj
    rw [Nat.zero_add]
    exact ⟨by rw [kr.cell, Array.getElem?_eq_getElem hj]; rfl, kr.free j⟩
  have hone : Hid ((U8s (bysN s)).toArray.all (·.oneCell') = true) := all_oneCell_toArray (U8s_one _)
  have ko := Lib.hid (setCells_all kr (U8s (bysN s)) (by rw [hlb]; rfl))
  have hbf := below_setCells (U8s (bysN s)) 0 _ hbv (Nat.le_refl _)
  have hsz1 : Hid ((Tryd.prog.info? 26).map (·.size) = some (U8s (bysN s)).length) := by rw [hlb]; exact b32_size
  have hsz : Hid ((Tryd.prog.info? 26).map (·.size) = some (U8s (bysN s)).toArray.size) := by rw [List.size_toArray, hlb]; exact b32_size
  clear k1 k2 hb hlb hs e1 kv kr hbv
  go_wp2_with (first | (refine wpList_load_mid rfl 26 _ rfl (w.heap.size + 1) 0 rfl (U8s (bysN s)) _ Hr.out Tryd.underlying26 rfl hsz1.out ?_) | (refine wpList_store_mid rfl 26 _ _ rfl w.heap.size 0 (U8s (bysN s)).toArray rfl rfl Hth.out hsz.out hone.out ?_))
  exact bodyPost_ret (res2 Tryd.results27 _ _ w.heap.size 26 _ _ (by rfl) (by rfl) ko.out hsz.out) rfl ⟨rfl, hbf⟩
end Go.Proofs.YtidceockbjeaoaaDoor

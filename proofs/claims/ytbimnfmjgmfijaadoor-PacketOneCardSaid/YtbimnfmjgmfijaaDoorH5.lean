/- Contract of the hash: what was written is summed up. -/
import Derived.Test.YtbimnfmjgmfijaaDoorH4
import Derived.Deep.DeepCutAuto
import Derived.Deep.RegionHeld3
import Derived.Deep.RegionLaw
import Derived.Laws.IdiomStrings
namespace Go.Proofs.YtbimnfmjgmfijaaDoor
open Go.RowKit
attribute [local go_sem ↓] Go.wp_at_zero Go.wp_at_succ
def z32 : List Nat := List.replicate 32 0
def len8 (n : Nat) : List Nat := (List.range 8).map fun j => n / 256 ^ (7 - j) % 256
def pad (M : List Nat) : List Nat := M ++ (128 :: List.replicate ((119 - M.length % 64) % 64) 0 ++ len8 (8 * M.length))
def bytesOf (X : List Int) : List Nat := (List.range 32).map fun i => (X.getD (i / 4) 0 / 2 ^ (24 - 8 * (i % 4)) % 256).toNat
def sha (M : List Nat) : List Nat := bytesOf (blks KK BG (pad M) ((pad M).length / 64))
def shaV (M : List Nat) : Value := .agg (U8s (sha M)).toArray
theorem all_oneCell {cs : Array Value} (h : ∀ v ∈ cs.toList, v.oneCell' = true) : cs.all (·.oneCell') = true := by
  have := all_oneCell_toArray h
  rwa [Array.toArray_toList] at this
def lenP (n k : Nat) : List Nat := (List.range 8).map fun j => if 8 ≤ j + k then n / 256 ^ (7 - j) % 256 else 0
theorem lenP_len (n k : Nat) : (lenP n k).length = 8 := by simp [lenP]
theorem lenP_all (n : Nat) : lenP n 8 = len8 n := by simp [lenP, len8]
theorem lenP_set (n k : Nat) (hk : k < 8) : (lenP n k).set (7 - k) (n / 256 ^ k % 256) = lenP n (k + 1) := by
  apply List.ext_getElem
  · simp [lenP]
  · intro i h1 h2
    rw [List.getElem_set]
    simp only [lenP, List.getElem_map, List.getElem_range]
    have hi : i < 8 := by simpa [lenP] using h2
    by_cases e : 7 - k = i
    · subst e
      rw [if_pos rfl, if_pos (by omega), show 7 - (7 - k) = k by omega]
    · rw [if_neg e]
      by_cases h3 : 8 ≤ i + k
      · rw [if_pos h3, if_pos (by omega)]
      · rw [if_neg h3, if_neg (by omega)]
theorem len_val (n k : Nat) : (n : Int) * 8 / 2 ^ (8 * k) % 256 = ((8 * n / 256 ^ k % 256 : Nat) : Int) := by
  have h : (256 : Nat) ^ k = 2 ^ (8 * k) := by rw [Nat.pow_mul]
  rw [h, Int.natCast_emod, Int.natCast_ediv, Int.natCast_pow, Int.natCast_mul, Int.mul_comm]
  rfl
theorem U8s_at {l : List Nat} {i : Nat} (h : i < l.length) : (U8s l).toArray[i]? = some (.int .u8 ((l.getD i 0 : Nat) : Int)) := by
  simp [U8s, List.getD_eq_getElem?_getD, h]
theorem U8s_set (l : List Nat) (i : Nat) (x : Nat) : (U8s l).toArray.setIfInBounds i (.int .u8 (x : Int)) = (U8s (l.set i x)).toArray := by
  simp [U8s, List.map_set]
def SumS (w : World) (gl gO : Nat) (L : List Nat) (w' : World) : Prop := Hid (Blk w' gl 103 (U8s L).toArray) ∧ Hid (Blk w' gO 66 (U8s z32).toArray) ∧ Hid (Tabs w') ∧ Hid (Below w.heap.size w w')
theorem SumS.drew {w w' : World} {gl gO : Nat} {L : List Nat} (h : SumS w gl gO L w') : SumS w gl gO L w'.drew := ⟨h.1.out.drew, h.2.1.out.drew, ⟨h.2.2.1.out.1, h.2.2.1.out.2⟩, h.2.2.2.out.drew⟩
theorem SumS.below {w w' w'' : World} {gl gO : Nat} {L : List Nat} (h : SumS w gl gO L w') (hb : Below w'.heap.size w' w'') : SumS w gl gO L w'' := ⟨h.1.out.on hb, h.2.1.out.on hb, h.2.2.1.out.on hb, BW_on h.2.2.2.out hb⟩
theorem SumS.alloc {w w' : World} {gl gO : Nat} {L : List Nat} (h : SumS w gl gO L w') (o : Obj) : SumS w gl gO L (w'.alloc o) := h.below (BW_alloc (BW_refl _) o)
theorem SumS.tabs {w w' : World} {gl gO : Nat} {L : List Nat} (h : SumS w gl gO L w') : Tabs w' := h.2.2.1.out
theorem Blk.grown {w w' : World} {g g' : Nat} {t : TypeId} {cs : Array Value} (h : Blk w g t cs) (hb : w.grownBy w' (some g')) (hne : g' ≠ g) : Blk w' g t cs := (hb.block g h.lt (fun e => hne (Option.some.inj e).symm)).trans h
theorem SumS.grown {w w' w'' : World} {gl gO ge : Nat} {L : List Nat} (h : SumS w gl gO L w') (h1 : ge ≠ gl) (h2 : ge ≠ gO) (h3 : w.heap.size ≤ ge) (h4 : 2 < ge) (hb : w'.grownBy w'' (some ge)) : SumS w gl gO L w'' :=
  ⟨h.1.out.grown hb h1, h.2.1.out.grown hb h2, h.2.2.1.out.grown hb h4, h.2.2.2.out.grown hb h.2.2.2.out.size (fun k e => by cases e; exact h3)⟩
theorem len_b8 : Tryd.prog.arrayLen 103 = 8 := by kernel_rfl
theorem und_b8 : Tryd.prog.underlying 103 = some (.array (Tryd.prog.arrayLen 103) (Tryd.prog.elem 103)) := by kernel_rfl
theorem slice_all (g : Nat) (w : World) :
    (Instr.sliceAt 103 (.pointer (some ⟨g, 0, none⟩)) none none none).run Tryd.prog w = .ok (.slice (some ⟨g, 0, none⟩) 8 8) w := by
  have h := run_sliceAt_array_all (P := Tryd.prog) w 103 ⟨g, 0, none⟩ und_b8
  have hs : (sizeOf (Tryd.prog.elem 103)).run Tryd.prog w = .ok 1 w := by kernel_rfl
  rw [h, hs]
  simp only [Result.andThen, slicedAt, len_b8]
  rw [if_neg (by decide), addr_add]
theorem conv_list (g : Nat) (t : TypeId) (L : List Nat) (hL : ∀ b ∈ L, b < 256) (c : Nat) : ∃ s : ByteArray, bysN s = L ∧ ∀ w', Blk w' g t (U8s L).toArray → (convert 37 9 (.slice (some ⟨g, 0, none⟩) L.length c)).run Tryd.prog w' = .ok (.string s) w' := by
  refine ⟨⟨(L.map fun b => UInt8.ofNat b).toArray⟩, ?_, fun w' kb => ?_⟩
  · simp only [bysN, List.map_map]
    refine (List.map_congr_left fun b hb => ?_).trans (List.map_id L)
    show (UInt8.ofNat b).toNat = b
    rw [UInt8.toNat_ofNat']
    exact Nat.mod_eq_of_lt (hL b hb)
  · have h := run_convert_bytes_back (P := Tryd.prog) w' 37 9 5 ⟨g, 0, none⟩ c (L.map fun b => UInt8.ofNat b) Tryd.underlying37 Tryd.underlying5 Tryd.underlying9 (fun j hj => by
      have hj2 : j < L.length := by simpa using hj
      rw [addr_add, Nat.zero_add, kb.cell, U8s_at hj2, List.getElem_map, UInt8.toNat_ofNat', Nat.mod_eq_of_lt (hL _ (List.getElem_mem hj2)), List.getD_eq_getElem?_getD, List.getElem?_eq_getElem hj2]
      rfl)
    rw [List.length_map] at h
    exact h
theorem len8_lt (n : Nat) : ∀ b ∈ len8 n, b < 256 := by
  intro b hb
  simp only [len8, List.mem_map] at hb
  obtain ⟨j, _, rfl⟩ := hb
  omega
theorem conv_len8 (w : World) (g gO n : Nat) : ∃ s : ByteArray, bysN s = len8 n ∧ ∀ w', SumS w g gO (len8 n) w' → (convert 37 9 (.slice (some ⟨g, 0, none⟩) 8 8)).run Tryd.prog w' = .ok (.string s) w' := by
  obtain ⟨s, h1, h2⟩ := conv_list g 103 (len8 n) (len8_lt n) 8
  refine ⟨s, h1, fun w' kb => ?_⟩
  have h3 := h2 w' kb.1.out
  rwa [show (len8 n).length = 8 by simp [len8]] at h3
theorem conv_128 (w : World) : (convert 37 9 (.slice (some ⟨w.heap.size, 0, none⟩) 1 1)).run Tryd.prog (w.alloc (.cells #[.int .u8 128] 5)) = .ok (.string ⟨#[128]⟩) (w.alloc (.cells #[.int .u8 128] 5)) := by
  exact run_convert_bytes_back (P := Tryd.prog) _ 37 9 5 ⟨w.heap.size, 0, none⟩ 1 [128] Tryd.underlying37 Tryd.underlying5 Tryd.underlying9 (fun j hj => by
      obtain rfl : j = 0 := by simpa using hj
      rw [addr_add, (blk1 w 5 #[.int .u8 128]).cell]
      rfl)
theorem conv_128c (w : World) : (convert 37 9 (.slice (some ⟨w.heap.size, 0, none⟩) 1 1)).run Tryd.prog (w.alloc (.cells #[.int .u8 128] 5)).drew = .ok (.string ⟨#[128]⟩) (w.alloc (.cells #[.int .u8 128] 5)).drew := by
  exact run_convert_bytes_back (P := Tryd.prog) _ 37 9 5 ⟨w.heap.size, 0, none⟩ 1 [128] Tryd.underlying37 Tryd.underlying5 Tryd.underlying9 (fun j hj => by
      obtain rfl : j = 0 := by simpa using hj
      rw [addr_add]
      exact ((blk1 w 5 #[.int .u8 128]).drew.cell 0).trans rfl)
theorem below_drew1 {w w' : World} (h : Below w.heap.size w w') : Below w.heap.size w w'.drew := h.drew
theorem conv_128b {w w' : World} (hb : Below (w.alloc (.cells #[.int .u8 128] 5)).drew.heap.size (w.alloc (.cells #[.int .u8 128] 5)).drew w') : (convert 37 9 (.slice (some ⟨w.heap.size, 0, none⟩) 1 1)).run Tryd.prog w' = .ok (.string ⟨#[128]⟩) w' := by
  exact run_convert_bytes_back (P := Tryd.prog) _ 37 9 5 ⟨w.heap.size, 0, none⟩ 1 [128] Tryd.underlying37 Tryd.underlying5 Tryd.underlying9 (fun j hj => by
      obtain rfl : j = 0 := by simpa using hj
      have h := ((blk1 w 5 #[.int .u8 128]).drew.on hb).cell 0
      rw [addr_add]
      exact h.trans rfl)
theorem bysN_append (a b : ByteArray) : bysN (a ++ b) = bysN a ++ bysN b := by
  simp [bysN, ByteArray.data_append]
theorem repeat_zero (z : Nat) : Lib.repeatL [0] z = List.replicate z 0 := by
  induction z with
  | zero => rfl
  | succ z ih => rw [List.replicate_succ, ← ih]; rfl
theorem rep_any (z : Nat) (hz : z < 64) : ∃ r : ByteArray, bysN r = List.replicate z 0 ∧ ∀ w, Calls Tryd.prog 77 #[.string ⟨#[0]⟩, .int .i64 (z : Int)] w fun e w' => e = .returned (.string r) ∧ Below w.heap.size w w' := by
  refine ⟨⟨(Lib.repeatL [0] z).toArray⟩, ?_, fun w => Tryd.strings_Repeat ⟨#[0]⟩ z w (by omega) (by show 1 * z ≤ _; omega)⟩
  rw [repeat_zero]
  simp [bysN]
theorem cat_any (a b : ByteArray) (h : a.size + b.size ≤ 1000) : ∃ t : ByteArray, bysN t = bysN a ++ bysN b ∧ ∀ w, (Op.stringOp .add a b).run Tryd.prog w = .ok (.string t) w :=
  ⟨a ++ b, bysN_append a b, fun w => run_string_add_sum w a b (by omega)⟩
theorem len8_len (n : Nat) : (len8 n).length = 8 := by simp [len8]
theorem Blk.onA {w w3 : World} {g : Nat} {t : TypeId} {cs : Array Value} {o : Obj} (h : Blk w g t cs) (hd : Below (w.alloc o).drew.heap.size (w.alloc o).drew w3) : Blk w3 g t cs := (h.alloc o).drew.on hd
theorem Blk.onB {w w3 : World} {g : Nat} {t : TypeId} {cs : Array Value} {o : Obj} (h : Blk w g t cs) (hd : Below w.drew.heap.size w.drew w3) : Blk (w3.alloc o) g t cs := (h.drew.on hd).alloc o
def bytesP (X : List Int) (k : Nat) : List Nat := (List.range 32).map fun i => if i < k then (X.getD (i / 4) 0 / 2 ^ (24 - 8 * (i % 4)) % 256).toNat else 0
theorem bytesP_len (X : List Int) (k : Nat) : (bytesP X k).length = 32 := by simp [bytesP]
theorem bytesP_zero (X : List Int) : bytesP X 0 = z32 := by
  apply List.ext_getElem
  · rw [bytesP_len]; rfl
  · intro i h1 h2
    simp only [bytesP, List.getElem_map, List.getElem_range]
    rw [if_neg (by omega)]
    exact (List.eq_of_mem_replicate (List.getElem_mem h2)).symm
theorem bytesP_all (X : List Int) : bytesP X 32 = bytesOf X := by
  unfold bytesP bytesOf
  refine List.map_congr_left fun i hi => ?_
  rw [if_pos (List.mem_range.1 hi)]
theorem bytesP_set (X : List Int) (k : Nat) : (bytesP X k).set k (X.getD (k / 4) 0 / 2 ^ (24 - 8 * (k % 4)) % 256).toNat = bytesP X (k + 1) := by
  apply List.ext_getElem
  · simp [bytesP]
  · intro i h1 h2
    rw [List.getElem_set]
    simp only [bytesP, List.getElem_map, List.getElem_range]
    by_cases e : k = i
    · subst e
      rw [if_pos rfl, if_pos (by omega)]
    · rw [if_neg e]
      by_cases h3 : i < k
      · rw [if_pos h3, if_pos (by omega)]
      · rw [if_neg h3, if_neg (by omega)]
theorem b32_size : (Tryd.prog.info? 66).map (·.size) = some 32 := by kernel_rfl
theorem U8s_one (l : List Nat) : ∀ v ∈ U8s l, v.oneCell' = true := by
  intro v hv
  simp only [U8s, List.mem_map] at hv
  obtain ⟨_, _, rfl⟩ := hv
  rfl
theorem HSt.mk0 {w : World} {g : Nat} (kb : Blk w g 102 (hcs BG z64 0 true)) : HSt KK BG w g [] :=
  ⟨z64, rfl, fun i => by
    rw [List.getD_eq_getElem?_getD]
    cases hi : z64[i]? with
    | none => decide
    | some b => rw [List.eq_of_mem_replicate (List.mem_of_getElem? hi)]; decide, rfl, kb⟩
theorem hs_size : (Tryd.prog.info? 102).map (·.size) = some 74 := by kernel_rfl
theorem hcs_one (X : List Int) (B : List Nat) (n : Int) (m : Bool) : ∀ v ∈ (hcs X B n m).toList, v.oneCell' = true := by
  intro v hv
  unfold hcs at hv
  simp only [List.mem_append, U32, U8s, List.mem_map, List.mem_cons, List.not_mem_nil, or_false] at hv
  rcases hv with (⟨_, _, rfl⟩ | ⟨_, _, rfl⟩) | rfl | rfl <;> rfl
set_option maxHeartbeats 4000000 in
set_option maxRecDepth 100000 in
theorem sum_any (g : Nat) (M : List Nat) (w : World) (hg : Hid (HSt KK BG w g M)) (ht : Hid (Tabs w)) (hlen : M.length ≤ 1000000000000000000) :
    Calls Tryd.prog 70 #[.pointer (some ⟨g, 0, none⟩)] w fun e w' => e = .returned (shaV M) ∧ Below w.heap.size w w' := by
  obtain ⟨B, hB, hB8, hBt, kh⟩ := hg.out
  have hX := blks_len KK BG rfl M (M.length / 64)
  have hm := hcs_m (n := (M.length : Int)) (m := true) hX hB
  have hs := hcs_size (n := (M.length : Int)) (m := true) hX hB
  have hone := hcs_one (blks KK BG M (M.length / 64)) B (M.length : Int) true
  have hn := hcs_n (n := (M.length : Int)) (m := true) hX hB
  have Hst : Hid (∀ w g, Blk w g 102 (hcs (blks KK BG M (M.length / 64)) B (M.length : Int) true) → HSt KK BG w g M) := Lib.hid (fun w g kb => ⟨B, hB, hB8, hBt, kb⟩)
  clear hX hB hB8 hBt
  generalize hcs (blks KK BG M (M.length / 64)) B (M.length : Int) true = cs at *
  have Hone := Lib.hid hone
  have Hs := Lib.hid hs
  clear hone hs
  go_enter Tryd.func70, Tryd.ntmps70
  have hT := ht.out.on (BW_alloc (BW_refl w) (.cells (U8s z32).toArray 66))
  go_wp2_with fail
  refine (new_any _ hT).mono ?_
  rintro e w1 ⟨rfl, hw1⟩
  have ko : Blk w1 w.heap.size 66 (U8s z32).toArray := by rw [hw1]; exact (blk1 w 66 (U8s z32).toArray).alloc (.cells (hcs BG z64 0 true) 102)
  have ke : Blk w1 (w.alloc (.cells (U8s z32).toArray 66)).heap.size 102 (hcs BG z64 0 true) := by rw [hw1]; exact blk1 _ _ _
  have k8 : Blk w1 g 102 cs := by rw [hw1]; exact (kh.alloc (.cells (U8s z32).toArray 66)).alloc (.cells (hcs BG z64 0 true) 102)
  have hb : Below w.heap.size w w1 := by rw [hw1]; exact BW_alloc (BW_alloc (BW_refl w) (.cells (U8s z32).toArray 66)) (.cells (hcs BG z64 0 true) 102)
  have hT1 : Hid (Tabs w1) := by rw [hw1]; exact (ht.out.on (BW_alloc (BW_refl w) (.cells (U8s z32).toArray 66))).on (BW_alloc (BW_refl _) (.cells (hcs BG z64 0 true) 102))
  have hge : Hid (w.heap.size < (w.alloc (.cells (U8s z32).toArray 66)).heap.size) := by show _ < _; simp
  have h1w : 2 < w.heap.size := ht.out.lt
  clear hT hw1
  have cm := (k8.cell 73).trans hm
  generalize (w.alloc (.cells (U8s z32).toArray 66)).heap.size = ge at *
  have hr8 : w1.rangeAt g 0 cs.toList := fun j v hj => by rw [Nat.zero_add, k8.cell]; simpa using hj
  have hth : w1.there ge 0 cs.size := fun j hj => by rw [Nat.zero_add]; exact ⟨by rw [ke.cell, ← Array.getElem?_toList]; rw [Hs.out] at hj; simp [hcs, U32, U8s, BG, z64]; omega, ke.free j⟩
  have hsz : Hid ((Tryd.prog.info? 102).map (·.size) = some cs.toList.length) := by rw [Array.length_toList, Hs.out]; exact hs_size
  have hsz2 : Hid ((Tryd.prog.info? 102).map (·.size) = some cs.toList.toArray.size) := by rw [Array.toArray_toList, Hs.out]; exact hs_size
  have hone2 : Hid (cs.toList.toArray.all (·.oneCell') = true) := by rw [Array.toArray_toList]; exact all_oneCell Hone.out
  have Hr8 := Lib.hid hr8
  have Hth : Hid (w1.there ge 0 cs.toList.toArray.size) := by rw [Array.toArray_toList]; exact hth
  clear hr8 hth
  have ke2 := setCells_all ke cs.toList (by rw [Array.length_toList, Hs.out]; rfl)
  rw [Array.toArray_toList] at ke2
  have ko2 := Blk.farCells cs.toList 0 _ ko (Nat.ne_of_lt hge.out)
  have hb2 := below_setCells cs.toList 0 _ hb (Nat.le_of_lt hge.out)
  have hT2 : Hid (Tabs (w1.setCells ge 0 cs.toList)) := hT1.out.grown (grown_cells cs.toList 0 (World.grownBy.refl w1 (some ge))) (Nat.lt_trans h1w hge.out)
  go_upto_region 4 with (first | (refine wpList_load_mid rfl 102 _ rfl g 0 rfl cs.toList _ Hr8.out Tryd.underlying102 rfl hsz.out ?_) | (refine wpList_store_mid rfl 102 _ _ rfl ge 0 cs.toList.toArray rfl rfl Hth.out hsz2.out hone2.out ?_))
  skip
  clear hsz hsz2 hone2 Hr8 Hth ko k8 hb hT1 cm ke Hone Hs kh hg ht hm
  change Code.wp _ _ _ _ (w1.setCells ge 0 cs.toList)
  generalize w1.setCells ge 0 cs.toList = W at *
  have hgl := Lib.hid (And.intro ke2.lt ko2.lt)
  have kl := blk1 W 103 (U8s (lenP (8 * M.length) 0)).toArray
  have kE := ke2.alloc (.cells (U8s (lenP (8 * M.length) 0)).toArray 103)
  have kO := ko2.alloc (.cells (U8s (lenP (8 * M.length) 0)).toArray 103)
  have hbW := Lib.hid hb2.size
  have hT3 : Hid (Tabs (W.alloc (.cells (U8s (lenP (8 * M.length) 0)).toArray 103))) := hT2.out.on (BW_alloc (BW_refl _) _)
  have hb3 := BW_alloc hb2 (.cells (U8s (lenP (8 * M.length) 0)).toArray 103)
  clear ke2 ko2 hT2 hb2
  go_wp2_with fail
  generalize hglv : W.heap.size = gl at *
  go_loopw [23] (fun i wi => ∃ k : Nat, k ≤ 8 ∧ i = .int .i64 (k : Int) ∧ Hid (Blk wi gl 103 (U8s (lenP (8 * M.length) k)).toArray) ∧ Blk wi ge 102 cs ∧ Blk wi w.heap.size 66 (U8s z32).toArray ∧ Hid (Tabs wi) ∧ Below w.heap.size w wi) (fun i _ => 8 - (intOf i).toNat)
  case atStart => exact ⟨0, by omega, rfl, kl, kE, kO, hT3, hb3⟩
  case round =>
    clear kl kE kO hT3 hb3
    obtain ⟨k, hk, rfl, kl, kE, kO, hT, hb⟩ := hrel
    by_cases hkt : k < 8
    · have hk1 : (k : Int) < 8 := by omega
      have hk7 : (7 : Int) - (k : Int) = ((7 - k : Nat) : Int) := by omega
      have cn := (kE.cell 72).trans hn
      have fl := kl.out.free (7 - k)
      have cl := (kl.out.cell (7 - k)).trans (U8s_at (l := lenP (8 * M.length) k) (by rw [lenP_len]; omega))
      generalize hxl : (lenP (8 * M.length) k).getD (7 - k) 0 = xl at *
      go_wp2_with fail
      go_roundw
      case rel =>
        refine ⟨k + 1, by omega, by go_num, Lib.hid ?_, kE.far (p := ⟨gl, 7 - k, none⟩) (Nat.ne_of_lt hgl.out.1) _, kO.far (p := ⟨gl, 7 - k, none⟩) (Nat.ne_of_lt hgl.out.2) _, Lib.hid (hT.out.grown (grown_set (World.grownBy.refl wr (some gl)) (7 - k) _) (Nat.lt_trans h1w hgl.out.2)), BW_off (p := ⟨gl, 7 - k, none⟩) hbW.out _ hb⟩
        have h9 := kl.out.set_ (7 - k) (.int .u8 ((8 * M.length / 256 ^ k % 256 : Nat) : Int))
        rw [U8s_set, lenP_set _ _ hkt] at h9
        rw [len_val]
        exact h9
      case measure => simp [intOf]; omega
    · obtain rfl : k = 8 := by omega
      rw [lenP_all] at kl
      have cn := (kE.cell 72).trans hn
      have tm1 : (M.length : Int).tmod 64 = ((M.length % 64 : Nat) : Int) := by rw [Int.tmod_eq_emod_of_nonneg (by omega)]; omega
      have hal : M.length % 64 < 64 := Nat.mod_lt _ (by decide)
      have Hpad := Lib.hid (show pad M = M ++ (128 :: List.replicate ((119 - M.length % 64) % 64) 0 ++ len8 (8 * M.length)) from rfl)
      generalize M.length % 64 = a at *
      have tm2 : ((55 : Int) - (a : Int) + 64).tmod 64 = (((119 - a) % 64 : Nat) : Int) := by rw [Int.tmod_eq_emod_of_nonneg (by omega)]; omega
      have hz : (119 - a) % 64 < 64 := Nat.mod_lt _ (by decide)
      generalize (119 - a) % 64 = z at *
      go_upto_region 11 with (fail)
      have hS : SumS w gl w.heap.size (len8 (8 * M.length)) wr := ⟨kl, Lib.hid kO, hT, Lib.hid hb⟩
      have hlt2 := Lib.hid (show ge ≠ gl ∧ ge ≠ w.heap.size ∧ w.heap.size ≤ ge ∧ 2 < ge from ⟨Nat.ne_of_lt hgl.out.1, (Nat.ne_of_lt hge.out).symm, Nat.le_of_lt hge.out, Nat.lt_trans h1w hge.out⟩)
      have kE' := Lib.hid kE
      clear cn tm1 tm2 kl kO hb hglv hgl hbW hge kE
      go_cut [] (fun wx => Hid (HSt KK BG wx ge (pad M)) ∧ SumS w gl w.heap.size (len8 (8 * M.length)) wx)
      case first =>
        have hsl8 := slice_all gl
        obtain ⟨s8, hs8, hconv8⟩ := conv_len8 w gl w.heap.size (8 * M.length)
        have h128a := conv_128
        have h128c := conv_128c
        obtain ⟨r, hr, hrep⟩ := rep_any z hz
        obtain ⟨t1, ht1, hc1⟩ := cat_any ⟨#[128]⟩ r (by rw [← bysN_len, ← bysN_len, hr, List.length_replicate]; show 1 + z ≤ _; omega)
        obtain ⟨t2, ht2, hc2⟩ := cat_any t1 s8 (by rw [← bysN_len, ← bysN_len, ht1, hs8, hr, List.length_append, List.length_replicate, len8_len]; show 1 + z + 8 ≤ _; omega)
        have ht3 : bysN t2 = 128 :: List.replicate z 0 ++ len8 (8 * M.length) := by rw [ht2, ht1, hs8, hr]; rfl
        have hsz2 : M.length + t2.size ≤ 1152921504606846976 := by
          rw [← bysN_len, ht3, List.length_append, List.length_cons, List.length_replicate, len8_len]; omega
        have Ht3 := Lib.hid ht3
        have Hrep := Lib.hid hrep
        clear hs8 hr ht1 ht2 ht3 hrep
        have hS1 := SumS.drew hS
        have hS2 := SumS.alloc hS (.cells #[.int .u8 128] 5)
        have hS2b := SumS.drew hS2
        go_region_law (first | (go_simp; go_at_call 77; refine (Hrep.out _).mono ?_; rintro e w3 ⟨rfl, hd⟩; have hS3 := SumS.below (by first | exact SumS.drew hS | exact SumS.drew (SumS.alloc hS _) | exact SumS.drew (SumS.drew hS) | exact SumS.drew (SumS.drew (SumS.alloc hS _))) hd; have hS3a := SumS.drew hS3; have hS3b := SumS.alloc hS3 (.cells #[.int .u8 128] 5); have hS3c := SumS.drew hS3b; (try have hx1 := conv_128b hd); (try have hx2 := conv_128b (below_drew1 hd))) | (go_simp; go_at_call 69; refine (write_any ge KK BG M t2 _ (Lib.hid rfl) (Lib.hid (Hst.out _ _ (by first | exact Blk.onA kE'.out (by assumption) | exact Blk.onB kE'.out (by assumption)))) hsz2 hlt2.out.2.2.2 (Lib.hid (SumS.tabs (by first | exact hS3 | exact SumS.drew hS3 | exact SumS.alloc hS3 _ | exact SumS.drew (SumS.alloc hS3 _) | exact SumS.drew (SumS.drew hS3) | exact SumS.drew (SumS.drew (SumS.alloc hS3 _)))).2)).mono ?_; rintro e w4 ⟨rfl, hst4, hg4⟩; have hS4 := SumS.grown (by first | exact hS3 | exact SumS.drew hS3 | exact SumS.alloc hS3 _ | exact SumS.drew (SumS.alloc hS3 _) | exact SumS.drew (SumS.drew hS3) | exact SumS.drew (SumS.drew (SumS.alloc hS3 _))) hlt2.out.1 hlt2.out.2.1 hlt2.out.2.2.1 hlt2.out.2.2.2 hg4))
        all_goals (go_wp2_with fail; go_meet; exact ⟨Lib.hid (by rw [Hpad.out, ← Ht3.out]; exact hst4), hS4⟩)
      case rest =>
      clear hS kE' hT
      obtain ⟨hE, hS⟩ := hcut
      obtain ⟨B2, hB2, hB28, hB2t, kE⟩ := hE.out
      have hX := Lib.hid (blks_len KK BG rfl (pad M) ((pad M).length / 64))
      have Hsha := Lib.hid (show sha M = bytesOf (blks KK BG (pad M) ((pad M).length / 64)) from rfl)
      generalize blks KK BG (pad M) ((pad M).length / 64) = X at *
      clear hB2 hB28 hB2t hE Hpad Hst hn
      have kq := blk1 wc 66 (U8s (bytesP X 0)).toArray
      have kE2 := kE.alloc (.cells (U8s (bytesP X 0)).toArray 66)
      have kO2 := hS.2.1.out.alloc (.cells (U8s (bytesP X 0)).toArray 66)
      have hb2 := BW_alloc hS.2.2.2.out (.cells (U8s (bytesP X 0)).toArray 66)
      have hgq := Lib.hid (And.intro kE.lt (And.intro hS.2.1.out.lt hS.2.2.2.out.size))
      clear kE hS
      go_wp2_with fail
      generalize wc.heap.size = gq at *
      go_loopw [58] (fun i wi => ∃ k : Nat, k ≤ 32 ∧ i = .int .i64 (k : Int) ∧ Hid (Blk wi gq 66 (U8s (bytesP X k)).toArray) ∧ Hid (Blk wi ge 102 (hcs X B2 ((pad M).length : Int) true)) ∧ Blk wi w.heap.size 66 (U8s z32).toArray ∧ Below w.heap.size w wi) (fun i _ => 32 - (intOf i).toNat)
      case atStart => exact ⟨0, by omega, rfl, by rw [bytesP_zero]; rw [bytesP_zero] at kq; exact kq, by rw [bytesP_zero] at kE2; exact kE2, by rw [bytesP_zero] at kO2; exact kO2, by rw [bytesP_zero] at hb2; exact hb2⟩
      case round =>
        clear kq kE2 kO2 hb2
        obtain ⟨k, hk, rfl, kq, kE, kO, hb⟩ := hrel
        by_cases hkt : k < 32
        · have hk1 : (k : Int) < 32 := by omega
          have hq : (k : Int).tdiv 4 = ((k / 4 : Nat) : Int) := by rw [Int.tdiv_eq_ediv_of_nonneg (by omega)]; omega
          have hr : (k : Int).tmod 4 = ((k % 4 : Nat) : Int) := by rw [Int.tmod_eq_emod_of_nonneg (by omega)]; omega
          have hq8 : k / 4 < 8 := by omega
          have hset := Lib.hid (bytesP_set X k)
          have ce := (kE.out.cell (k / 4)).trans (hcs_x hX.out hq8)
          have cq := (kq.out.cell k).trans (U8s_at (l := bytesP X k) (by rw [bytesP_len]; exact hkt))
          have fq := kq.out.free k
          have hr4 : k % 4 < 4 := Nat.mod_lt _ (by decide)
          generalize k / 4 = q at *
          generalize k % 4 = r at *
          have e24 : (24 : Int) - 8 * (r : Int) = ((24 - 8 * r : Nat) : Int) := by omega
          generalize (bytesP X k).getD k 0 = xo at *
          generalize X.getD q 0 = xq at *
          go_wp2_with fail
          go_roundw
          case rel =>
            refine ⟨k + 1, by omega, by go_num, Lib.hid ?_, Lib.hid (kE.out.far (p := ⟨gq, k, none⟩) (Nat.ne_of_lt hgq.out.1) _), kO.far (p := ⟨gq, k, none⟩) (Nat.ne_of_lt hgq.out.2.1) _, BW_off (p := ⟨gq, k, none⟩) hgq.out.2.2 _ hb⟩
            have h9 := kq.out.set_ k (.int .u8 (((xq / 2 ^ (24 - 8 * r) % 256).toNat : Nat) : Int))
            have e : (((xq / 2 ^ (24 - 8 * r) % 256).toNat : Nat) : Int) = xq / 2 ^ (24 - 8 * r) % 256 := Int.toNat_of_nonneg (Int.emod_nonneg _ (by decide))
            rw [U8s_set, hset.out] at h9
            rw [e] at h9
            exact h9
          case measure => simp [intOf]; omega
        · obtain rfl : k = 32 := by omega
          rw [bytesP_all] at kq
          have hl32 : (U8s (bytesOf X)).length = 32 := by simp [U8s, bytesOf]
          have Hr : Hid (wr.rangeAt gq 0 (U8s (bytesOf X))) := fun j v hj => by rw [Nat.zero_add, kq.out.cell]; simpa using hj
          have Hth : Hid (wr.there w.heap.size 0 (U8s (bytesOf X)).toArray.size) := fun j hj => by
            rw [List.size_toArray, hl32] at hj
            rw [Nat.zero_add]
            exact ⟨by rw [kO.cell, U8s_at (by unfold z32; rw [List.length_replicate]; exact hj)]; rfl, kO.free j⟩
          have hsz : Hid ((Tryd.prog.info? 66).map (·.size) = some (U8s (bytesOf X)).length) := by rw [hl32]; exact b32_size
          have hsz2 : Hid ((Tryd.prog.info? 66).map (·.size) = some (U8s (bytesOf X)).toArray.size) := by rw [List.size_toArray, hl32]; exact b32_size
          have hone : Hid ((U8s (bytesOf X)).toArray.all (·.oneCell') = true) := all_oneCell_toArray (U8s_one _)
          have ko := Lib.hid (setCells_all kO (U8s (bytesOf X)) (by rw [hl32]; rfl))
          have hbf := below_setCells (U8s (bytesOf X)) 0 _ hb (Nat.le_refl _)
          have Hl32 := Lib.hid hl32
          clear kq kE kO hl32
          go_wp2_with (first | (refine wpList_load_mid rfl 66 _ rfl gq 0 rfl (U8s (bytesOf X)) _ Hr.out Tryd.underlying66 rfl hsz.out ?_) | (refine wpList_store_mid rfl 66 _ _ rfl w.heap.size 0 (U8s (bytesOf X)).toArray rfl rfl Hth.out hsz2.out hone.out ?_))
          refine bodyPost_ret (v := .agg (U8s (bytesOf X)).toArray) (results_cell_row Tryd.results70 _ _ w.heap.size 66 _ (0, 0) _ (by rfl) ko.out Tryd.underlying66 rfl hsz2.out) rfl ⟨by unfold shaV; rw [Hsha.out], hbf⟩
set_option maxHeartbeats 4000000 in
set_option maxRecDepth 100000 in
theorem sum_zero_ (g : Nat) (M : List Nat) (w : World) (hM : Hid (M = [])) (kh : Blk w g 102 (hcs [0, 0, 0, 0, 0, 0, 0, 0] z64 0 false)) (ht : Hid (Tabs w)) :
    Calls Tryd.prog 70 #[.pointer (some ⟨g, 0, none⟩)] w fun e w' => e = .returned (shaV M) ∧ Below w.heap.size w w' := by
  have hn : (hcs BG z64 0 true)[72]? = some (.int .i64 (M.length : Int)) := by rw [hM.out]; rfl
  have Hst : Hid (∀ w g, Blk w g 102 (hcs BG z64 0 true) → HSt KK BG w g M) := by rw [hM.out]; exact fun w g kb => HSt.mk0 kb
  have hlen : M.length ≤ 1000000000000000000 := by rw [hM.out]; decide
  go_enter Tryd.func70, Tryd.ntmps70
  have hT := ht.out.on (BW_alloc (BW_refl w) (.cells (U8s z32).toArray 66))
  go_wp2_with fail
  refine (new_any _ hT).mono ?_
  rintro e w1 ⟨rfl, hw1⟩
  have ko2 : Blk w1 w.heap.size 66 (U8s z32).toArray := by rw [hw1]; exact (blk1 w 66 (U8s z32).toArray).alloc (.cells (hcs BG z64 0 true) 102)
  have ke2 : Blk w1 (w.alloc (.cells (U8s z32).toArray 66)).heap.size 102 (hcs BG z64 0 true) := by rw [hw1]; exact blk1 _ _ _
  have hb2 : Below w.heap.size w w1 := by rw [hw1]; exact BW_alloc (BW_alloc (BW_refl w) (.cells (U8s z32).toArray 66)) (.cells (hcs BG z64 0 true) 102)
  have hT2 : Hid (Tabs w1) := by rw [hw1]; exact (ht.out.on (BW_alloc (BW_refl w) (.cells (U8s z32).toArray 66))).on (BW_alloc (BW_refl _) (.cells (hcs BG z64 0 true) 102))
  have hge : Hid (w.heap.size < (w.alloc (.cells (U8s z32).toArray 66)).heap.size) := by show _ < _; simp
  have h1w : 2 < w.heap.size := ht.out.lt
  have cm : w1.cell? ⟨g, 73, none⟩ = some (.bool false) := by rw [hw1]; exact (((kh.alloc (.cells (U8s z32).toArray 66)).alloc (.cells (hcs BG z64 0 true) 102)).cell 73).trans rfl
  clear kh
  clear hT hw1 ht
  generalize (w.alloc (.cells (U8s z32).toArray 66)).heap.size = ge at *
  generalize hcs BG z64 0 true = cs at *
  go_upto_region 4 with (fail)
  clear cm
  generalize w1 = W at *
  have hgl := Lib.hid (And.intro ke2.lt ko2.lt)
  have kl := blk1 W 103 (U8s (lenP (8 * M.length) 0)).toArray
  have kE := ke2.alloc (.cells (U8s (lenP (8 * M.length) 0)).toArray 103)
  have kO := ko2.alloc (.cells (U8s (lenP (8 * M.length) 0)).toArray 103)
  have hbW := Lib.hid hb2.size
  have hT3 : Hid (Tabs (W.alloc (.cells (U8s (lenP (8 * M.length) 0)).toArray 103))) := hT2.out.on (BW_alloc (BW_refl _) _)
  have hb3 := BW_alloc hb2 (.cells (U8s (lenP (8 * M.length) 0)).toArray 103)
  clear ke2 ko2 hT2 hb2
  go_wp2_with fail
  generalize hglv : W.heap.size = gl at *
  go_loopw [23] (fun i wi => ∃ k : Nat, k ≤ 8 ∧ i = .int .i64 (k : Int) ∧ Hid (Blk wi gl 103 (U8s (lenP (8 * M.length) k)).toArray) ∧ Blk wi ge 102 cs ∧ Blk wi w.heap.size 66 (U8s z32).toArray ∧ Hid (Tabs wi) ∧ Below w.heap.size w wi) (fun i _ => 8 - (intOf i).toNat)
  case atStart => exact ⟨0, by omega, rfl, kl, kE, kO, hT3, hb3⟩
  case round =>
    clear kl kE kO hT3 hb3
    obtain ⟨k, hk, rfl, kl, kE, kO, hT, hb⟩ := hrel
    by_cases hkt : k < 8
    · have hk1 : (k : Int) < 8 := by omega
      have hk7 : (7 : Int) - (k : Int) = ((7 - k : Nat) : Int) := by omega
      have cn := (kE.cell 72).trans hn
      have fl := kl.out.free (7 - k)
      have cl := (kl.out.cell (7 - k)).trans (U8s_at (l := lenP (8 * M.length) k) (by rw [lenP_len]; omega))
      generalize hxl : (lenP (8 * M.length) k).getD (7 - k) 0 = xl at *
      go_wp2_with fail
      go_roundw
      case rel =>
        refine ⟨k + 1, by omega, by go_num, Lib.hid ?_, kE.far (p := ⟨gl, 7 - k, none⟩) (Nat.ne_of_lt hgl.out.1) _, kO.far (p := ⟨gl, 7 - k, none⟩) (Nat.ne_of_lt hgl.out.2) _, Lib.hid (hT.out.grown (grown_set (World.grownBy.refl wr (some gl)) (7 - k) _) (Nat.lt_trans h1w hgl.out.2)), BW_off (p := ⟨gl, 7 - k, none⟩) hbW.out _ hb⟩
        have h9 := kl.out.set_ (7 - k) (.int .u8 ((8 * M.length / 256 ^ k % 256 : Nat) : Int))
        rw [U8s_set, lenP_set _ _ hkt] at h9
        rw [len_val]
        exact h9
      case measure => simp [intOf]; omega
    · obtain rfl : k = 8 := by omega
      rw [lenP_all] at kl
      have cn := (kE.cell 72).trans hn
      have tm1 : (M.length : Int).tmod 64 = ((M.length % 64 : Nat) : Int) := by rw [Int.tmod_eq_emod_of_nonneg (by omega)]; omega
      have hal : M.length % 64 < 64 := Nat.mod_lt _ (by decide)
      have Hpad := Lib.hid (show pad M = M ++ (128 :: List.replicate ((119 - M.length % 64) % 64) 0 ++ len8 (8 * M.length)) from rfl)
      generalize M.length % 64 = a at *
      have tm2 : ((55 : Int) - (a : Int) + 64).tmod 64 = (((119 - a) % 64 : Nat) : Int) := by rw [Int.tmod_eq_emod_of_nonneg (by omega)]; omega
      have hz : (119 - a) % 64 < 64 := Nat.mod_lt _ (by decide)
      generalize (119 - a) % 64 = z at *
      go_upto_region 11 with (fail)
      have hS : SumS w gl w.heap.size (len8 (8 * M.length)) wr := ⟨kl, Lib.hid kO, hT, Lib.hid hb⟩
      have hlt2 := Lib.hid (show ge ≠ gl ∧ ge ≠ w.heap.size ∧ w.heap.size ≤ ge ∧ 2 < ge from ⟨Nat.ne_of_lt hgl.out.1, (Nat.ne_of_lt hge.out).symm, Nat.le_of_lt hge.out, Nat.lt_trans h1w hge.out⟩)
      have kE' := Lib.hid kE
      clear cn tm1 tm2 kl kO hb hglv hgl hbW hge kE
      go_cut [] (fun wx => Hid (HSt KK BG wx ge (pad M)) ∧ SumS w gl w.heap.size (len8 (8 * M.length)) wx)
      case first =>
        have hsl8 := slice_all gl
        obtain ⟨s8, hs8, hconv8⟩ := conv_len8 w gl w.heap.size (8 * M.length)
        have h128a := conv_128
        have h128c := conv_128c
        obtain ⟨r, hr, hrep⟩ := rep_any z hz
        obtain ⟨t1, ht1, hc1⟩ := cat_any ⟨#[128]⟩ r (by rw [← bysN_len, ← bysN_len, hr, List.length_replicate]; show 1 + z ≤ _; omega)
        obtain ⟨t2, ht2, hc2⟩ := cat_any t1 s8 (by rw [← bysN_len, ← bysN_len, ht1, hs8, hr, List.length_append, List.length_replicate, len8_len]; show 1 + z + 8 ≤ _; omega)
        have ht3 : bysN t2 = 128 :: List.replicate z 0 ++ len8 (8 * M.length) := by rw [ht2, ht1, hs8, hr]; rfl
        have hsz2 : M.length + t2.size ≤ 1152921504606846976 := by
          rw [← bysN_len, ht3, List.length_append, List.length_cons, List.length_replicate, len8_len]; omega
        have Ht3 := Lib.hid ht3
        have Hrep := Lib.hid hrep
        clear hs8 hr ht1 ht2 ht3 hrep
        have hS1 := SumS.drew hS
        have hS2 := SumS.alloc hS (.cells #[.int .u8 128] 5)
        have hS2b := SumS.drew hS2
        go_region_law (first | (go_simp; go_at_call 77; refine (Hrep.out _).mono ?_; rintro e w3 ⟨rfl, hd⟩; have hS3 := SumS.below (by first | exact SumS.drew hS | exact SumS.drew (SumS.alloc hS _) | exact SumS.drew (SumS.drew hS) | exact SumS.drew (SumS.drew (SumS.alloc hS _))) hd; have hS3a := SumS.drew hS3; have hS3b := SumS.alloc hS3 (.cells #[.int .u8 128] 5); have hS3c := SumS.drew hS3b; (try have hx1 := conv_128b hd); (try have hx2 := conv_128b (below_drew1 hd))) | (go_simp; go_at_call 69; refine (write_any ge KK BG M t2 _ (Lib.hid rfl) (Lib.hid (Hst.out _ _ (by first | exact Blk.onA kE'.out (by assumption) | exact Blk.onB kE'.out (by assumption)))) hsz2 hlt2.out.2.2.2 (Lib.hid (SumS.tabs (by first | exact hS3 | exact SumS.drew hS3 | exact SumS.alloc hS3 _ | exact SumS.drew (SumS.alloc hS3 _) | exact SumS.drew (SumS.drew hS3) | exact SumS.drew (SumS.drew (SumS.alloc hS3 _)))).2)).mono ?_; rintro e w4 ⟨rfl, hst4, hg4⟩; have hS4 := SumS.grown (by first | exact hS3 | exact SumS.drew hS3 | exact SumS.alloc hS3 _ | exact SumS.drew (SumS.alloc hS3 _) | exact SumS.drew (SumS.drew hS3) | exact SumS.drew (SumS.drew (SumS.alloc hS3 _))) hlt2.out.1 hlt2.out.2.1 hlt2.out.2.2.1 hlt2.out.2.2.2 hg4))
        all_goals (go_wp2_with fail; go_meet; exact ⟨Lib.hid (by rw [Hpad.out, ← Ht3.out]; exact hst4), hS4⟩)
      case rest =>
      clear hS kE' hT
      obtain ⟨hE, hS⟩ := hcut
      obtain ⟨B2, hB2, hB28, hB2t, kE⟩ := hE.out
      have hX := Lib.hid (blks_len KK BG rfl (pad M) ((pad M).length / 64))
      have Hsha := Lib.hid (show sha M = bytesOf (blks KK BG (pad M) ((pad M).length / 64)) from rfl)
      generalize blks KK BG (pad M) ((pad M).length / 64) = X at *
      clear hB2 hB28 hB2t hE Hpad Hst hn
      have kq := blk1 wc 66 (U8s (bytesP X 0)).toArray
      have kE2 := kE.alloc (.cells (U8s (bytesP X 0)).toArray 66)
      have kO2 := hS.2.1.out.alloc (.cells (U8s (bytesP X 0)).toArray 66)
      have hb2 := BW_alloc hS.2.2.2.out (.cells (U8s (bytesP X 0)).toArray 66)
      have hgq := Lib.hid (And.intro kE.lt (And.intro hS.2.1.out.lt hS.2.2.2.out.size))
      clear kE hS
      go_wp2_with fail
      generalize wc.heap.size = gq at *
      go_loopw [58] (fun i wi => ∃ k : Nat, k ≤ 32 ∧ i = .int .i64 (k : Int) ∧ Hid (Blk wi gq 66 (U8s (bytesP X k)).toArray) ∧ Hid (Blk wi ge 102 (hcs X B2 ((pad M).length : Int) true)) ∧ Blk wi w.heap.size 66 (U8s z32).toArray ∧ Below w.heap.size w wi) (fun i _ => 32 - (intOf i).toNat)
      case atStart => exact ⟨0, by omega, rfl, by rw [bytesP_zero]; rw [bytesP_zero] at kq; exact kq, by rw [bytesP_zero] at kE2; exact kE2, by rw [bytesP_zero] at kO2; exact kO2, by rw [bytesP_zero] at hb2; exact hb2⟩
      case round =>
        clear kq kE2 kO2 hb2
        obtain ⟨k, hk, rfl, kq, kE, kO, hb⟩ := hrel
        by_cases hkt : k < 32
        · have hk1 : (k : Int) < 32 := by omega
          have hq : (k : Int).tdiv 4 = ((k / 4 : Nat) : Int) := by rw [Int.tdiv_eq_ediv_of_nonneg (by omega)]; omega
          have hr : (k : Int).tmod 4 = ((k % 4 : Nat) : Int) := by rw [Int.tmod_eq_emod_of_nonneg (by omega)]; omega
          have hq8 : k / 4 < 8 := by omega
          have hset := Lib.hid (bytesP_set X k)
          have ce := (kE.out.cell (k / 4)).trans (hcs_x hX.out hq8)
          have cq := (kq.out.cell k).trans (U8s_at (l := bytesP X k) (by rw [bytesP_len]; exact hkt))
          have fq := kq.out.free k
          have hr4 : k % 4 < 4 := Nat.mod_lt _ (by decide)
          generalize k / 4 = q at *
          generalize k % 4 = r at *
          have e24 : (24 : Int) - 8 * (r : Int) = ((24 - 8 * r : Nat) : Int) := by omega
          generalize (bytesP X k).getD k 0 = xo at *
          generalize X.getD q 0 = xq at *
          go_wp2_with fail
          go_roundw
          case rel =>
            refine ⟨k + 1, by omega, by go_num, Lib.hid ?_, Lib.hid (kE.out.far (p := ⟨gq, k, none⟩) (Nat.ne_of_lt hgq.out.1) _), kO.far (p := ⟨gq, k, none⟩) (Nat.ne_of_lt hgq.out.2.1) _, BW_off (p := ⟨gq, k, none⟩) hgq.out.2.2 _ hb⟩
            have h9 := kq.out.set_ k (.int .u8 (((xq / 2 ^ (24 - 8 * r) % 256).toNat : Nat) : Int))
            have e : (((xq / 2 ^ (24 - 8 * r) % 256).toNat : Nat) : Int) = xq / 2 ^ (24 - 8 * r) % 256 := Int.toNat_of_nonneg (Int.emod_nonneg _ (by decide))
            rw [U8s_set, hset.out] at h9
            rw [e] at h9
            exact h9
          case measure => simp [intOf]; omega
        · obtain rfl : k = 32 := by omega
          rw [bytesP_all] at kq
          have hl32 : (U8s (bytesOf X)).length = 32 := by simp [U8s, bytesOf]
          have Hr : Hid (wr.rangeAt gq 0 (U8s (bytesOf X))) := fun j v hj => by rw [Nat.zero_add, kq.out.cell]; simpa using hj
          have Hth : Hid (wr.there w.heap.size 0 (U8s (bytesOf X)).toArray.size) := fun j hj => by
            rw [List.size_toArray, hl32] at hj
            rw [Nat.zero_add]
            exact ⟨by rw [kO.cell, U8s_at (by unfold z32; rw [List.length_replicate]; exact hj)]; rfl, kO.free j⟩
          have hsz : Hid ((Tryd.prog.info? 66).map (·.size) = some (U8s (bytesOf X)).length) := by rw [hl32]; exact b32_size
          have hsz2 : Hid ((Tryd.prog.info? 66).map (·.size) = some (U8s (bytesOf X)).toArray.size) := by rw [List.size_toArray, hl32]; exact b32_size
          have hone : Hid ((U8s (bytesOf X)).toArray.all (·.oneCell') = true) := all_oneCell_toArray (U8s_one _)
          have ko := Lib.hid (setCells_all kO (U8s (bytesOf X)) (by rw [hl32]; rfl))
          have hbf := below_setCells (U8s (bytesOf X)) 0 _ hb (Nat.le_refl _)
          have Hl32 := Lib.hid hl32
          clear kq kE kO hl32
          go_wp2_with (first | (refine wpList_load_mid rfl 66 _ rfl gq 0 rfl (U8s (bytesOf X)) _ Hr.out Tryd.underlying66 rfl hsz.out ?_) | (refine wpList_store_mid rfl 66 _ _ rfl w.heap.size 0 (U8s (bytesOf X)).toArray rfl rfl Hth.out hsz2.out hone.out ?_))
          refine bodyPost_ret (v := .agg (U8s (bytesOf X)).toArray) (results_cell_row Tryd.results70 _ _ w.heap.size 66 _ (0, 0) _ (by rfl) ko.out Tryd.underlying66 rfl hsz2.out) rfl ⟨by unfold shaV; rw [Hsha.out], hbf⟩
set_option maxHeartbeats 4000000 in
set_option maxRecDepth 100000 in
theorem sum_nil_ (M : List Nat) (w : World) (hM : Hid (M = [])) (ht : Hid (Tabs w)) :
    Calls Tryd.prog 70 #[.pointer none] w fun e w' => e = .returned (shaV M) ∧ Below w.heap.size w w' := by
  have hn : (hcs BG z64 0 true)[72]? = some (.int .i64 (M.length : Int)) := by rw [hM.out]; rfl
  have Hst : Hid (∀ w g, Blk w g 102 (hcs BG z64 0 true) → HSt KK BG w g M) := by rw [hM.out]; exact fun w g kb => HSt.mk0 kb
  have hlen : M.length ≤ 1000000000000000000 := by rw [hM.out]; decide
  go_enter Tryd.func70, Tryd.ntmps70
  have hT := ht.out.on (BW_alloc (BW_refl w) (.cells (U8s z32).toArray 66))
  go_wp2_with fail
  refine (new_any _ hT).mono ?_
  rintro e w1 ⟨rfl, hw1⟩
  have ko2 : Blk w1 w.heap.size 66 (U8s z32).toArray := by rw [hw1]; exact (blk1 w 66 (U8s z32).toArray).alloc (.cells (hcs BG z64 0 true) 102)
  have ke2 : Blk w1 (w.alloc (.cells (U8s z32).toArray 66)).heap.size 102 (hcs BG z64 0 true) := by rw [hw1]; exact blk1 _ _ _
  have hb2 : Below w.heap.size w w1 := by rw [hw1]; exact BW_alloc (BW_alloc (BW_refl w) (.cells (U8s z32).toArray 66)) (.cells (hcs BG z64 0 true) 102)
  have hT2 : Hid (Tabs w1) := by rw [hw1]; exact (ht.out.on (BW_alloc (BW_refl w) (.cells (U8s z32).toArray 66))).on (BW_alloc (BW_refl _) (.cells (hcs BG z64 0 true) 102))
  have hge : Hid (w.heap.size < (w.alloc (.cells (U8s z32).toArray 66)).heap.size) := by show _ < _; simp
  have h1w : 2 < w.heap.size := ht.out.lt
  clear hT hw1 ht
  generalize (w.alloc (.cells (U8s z32).toArray 66)).heap.size = ge at *
  generalize hcs BG z64 0 true = cs at *
  go_upto_region 4 with (fail)
  generalize w1 = W at *
  have hgl := Lib.hid (And.intro ke2.lt ko2.lt)
  have kl := blk1 W 103 (U8s (lenP (8 * M.length) 0)).toArray
  have kE := ke2.alloc (.cells (U8s (lenP (8 * M.length) 0)).toArray 103)
  have kO := ko2.alloc (.cells (U8s (lenP (8 * M.length) 0)).toArray 103)
  have hbW := Lib.hid hb2.size
  have hT3 : Hid (Tabs (W.alloc (.cells (U8s (lenP (8 * M.length) 0)).toArray 103))) := hT2.out.on (BW_alloc (BW_refl _) _)
  have hb3 := BW_alloc hb2 (.cells (U8s (lenP (8 * M.length) 0)).toArray 103)
  clear ke2 ko2 hT2 hb2
  go_wp2_with fail
  generalize hglv : W.heap.size = gl at *
  go_loopw [23] (fun i wi => ∃ k : Nat, k ≤ 8 ∧ i = .int .i64 (k : Int) ∧ Hid (Blk wi gl 103 (U8s (lenP (8 * M.length) k)).toArray) ∧ Blk wi ge 102 cs ∧ Blk wi w.heap.size 66 (U8s z32).toArray ∧ Hid (Tabs wi) ∧ Below w.heap.size w wi) (fun i _ => 8 - (intOf i).toNat)
  case atStart => exact ⟨0, by omega, rfl, kl, kE, kO, hT3, hb3⟩
  case round =>
    clear kl kE kO hT3 hb3
    obtain ⟨k, hk, rfl, kl, kE, kO, hT, hb⟩ := hrel
    by_cases hkt : k < 8
    · have hk1 : (k : Int) < 8 := by omega
      have hk7 : (7 : Int) - (k : Int) = ((7 - k : Nat) : Int) := by omega
      have cn := (kE.cell 72).trans hn
      have fl := kl.out.free (7 - k)
      have cl := (kl.out.cell (7 - k)).trans (U8s_at (l := lenP (8 * M.length) k) (by rw [lenP_len]; omega))
      generalize hxl : (lenP (8 * M.length) k).getD (7 - k) 0 = xl at *
      go_wp2_with fail
      go_roundw
      case rel =>
        refine ⟨k + 1, by omega, by go_num, Lib.hid ?_, kE.far (p := ⟨gl, 7 - k, none⟩) (Nat.ne_of_lt hgl.out.1) _, kO.far (p := ⟨gl, 7 - k, none⟩) (Nat.ne_of_lt hgl.out.2) _, Lib.hid (hT.out.grown (grown_set (World.grownBy.refl wr (some gl)) (7 - k) _) (Nat.lt_trans h1w hgl.out.2)), BW_off (p := ⟨gl, 7 - k, none⟩) hbW.out _ hb⟩
        have h9 := kl.out.set_ (7 - k) (.int .u8 ((8 * M.length / 256 ^ k % 256 : Nat) : Int))
        rw [U8s_set, lenP_set _ _ hkt] at h9
        rw [len_val]
        exact h9
      case measure => simp [intOf]; omega
    · obtain rfl : k = 8 := by omega
      rw [lenP_all] at kl
      have cn := (kE.cell 72).trans hn
      have tm1 : (M.length : Int).tmod 64 = ((M.length % 64 : Nat) : Int) := by rw [Int.tmod_eq_emod_of_nonneg (by omega)]; omega
      have hal : M.length % 64 < 64 := Nat.mod_lt _ (by decide)
      have Hpad := Lib.hid (show pad M = M ++ (128 :: List.replicate ((119 - M.length % 64) % 64) 0 ++ len8 (8 * M.length)) from rfl)
      generalize M.length % 64 = a at *
      have tm2 : ((55 : Int) - (a : Int) + 64).tmod 64 = (((119 - a) % 64 : Nat) : Int) := by rw [Int.tmod_eq_emod_of_nonneg (by omega)]; omega
      have hz : (119 - a) % 64 < 64 := Nat.mod_lt _ (by decide)
      generalize (119 - a) % 64 = z at *
      go_upto_region 11 with (fail)
      have hS : SumS w gl w.heap.size (len8 (8 * M.length)) wr := ⟨kl, Lib.hid kO, hT, Lib.hid hb⟩
      have hlt2 := Lib.hid (show ge ≠ gl ∧ ge ≠ w.heap.size ∧ w.heap.size ≤ ge ∧ 2 < ge from ⟨Nat.ne_of_lt hgl.out.1, (Nat.ne_of_lt hge.out).symm, Nat.le_of_lt hge.out, Nat.lt_trans h1w hge.out⟩)
      have kE' := Lib.hid kE
      clear cn tm1 tm2 kl kO hb hglv hgl hbW hge kE
      go_cut [] (fun wx => Hid (HSt KK BG wx ge (pad M)) ∧ SumS w gl w.heap.size (len8 (8 * M.length)) wx)
      case first =>
        have hsl8 := slice_all gl
        obtain ⟨s8, hs8, hconv8⟩ := conv_len8 w gl w.heap.size (8 * M.length)
        have h128a := conv_128
        have h128c := conv_128c
        obtain ⟨r, hr, hrep⟩ := rep_any z hz
        obtain ⟨t1, ht1, hc1⟩ := cat_any ⟨#[128]⟩ r (by rw [← bysN_len, ← bysN_len, hr, List.length_replicate]; show 1 + z ≤ _; omega)
        obtain ⟨t2, ht2, hc2⟩ := cat_any t1 s8 (by rw [← bysN_len, ← bysN_len, ht1, hs8, hr, List.length_append, List.length_replicate, len8_len]; show 1 + z + 8 ≤ _; omega)
        have ht3 : bysN t2 = 128 :: List.replicate z 0 ++ len8 (8 * M.length) := by rw [ht2, ht1, hs8, hr]; rfl
        have hsz2 : M.length + t2.size ≤ 1152921504606846976 := by
          rw [← bysN_len, ht3, List.length_append, List.length_cons, List.length_replicate, len8_len]; omega
        have Ht3 := Lib.hid ht3
        have Hrep := Lib.hid hrep
        clear hs8 hr ht1 ht2 ht3 hrep
        have hS1 := SumS.drew hS
        have hS2 := SumS.alloc hS (.cells #[.int .u8 128] 5)
        have hS2b := SumS.drew hS2
        go_region_law (first | (go_simp; go_at_call 77; refine (Hrep.out _).mono ?_; rintro e w3 ⟨rfl, hd⟩; have hS3 := SumS.below (by first | exact SumS.drew hS | exact SumS.drew (SumS.alloc hS _) | exact SumS.drew (SumS.drew hS) | exact SumS.drew (SumS.drew (SumS.alloc hS _))) hd; have hS3a := SumS.drew hS3; have hS3b := SumS.alloc hS3 (.cells #[.int .u8 128] 5); have hS3c := SumS.drew hS3b; (try have hx1 := conv_128b hd); (try have hx2 := conv_128b (below_drew1 hd))) | (go_simp; go_at_call 69; refine (write_any ge KK BG M t2 _ (Lib.hid rfl) (Lib.hid (Hst.out _ _ (by first | exact Blk.onA kE'.out (by assumption) | exact Blk.onB kE'.out (by assumption)))) hsz2 hlt2.out.2.2.2 (Lib.hid (SumS.tabs (by first | exact hS3 | exact SumS.drew hS3 | exact SumS.alloc hS3 _ | exact SumS.drew (SumS.alloc hS3 _) | exact SumS.drew (SumS.drew hS3) | exact SumS.drew (SumS.drew (SumS.alloc hS3 _)))).2)).mono ?_; rintro e w4 ⟨rfl, hst4, hg4⟩; have hS4 := SumS.grown (by first | exact hS3 | exact SumS.drew hS3 | exact SumS.alloc hS3 _ | exact SumS.drew (SumS.alloc hS3 _) | exact SumS.drew (SumS.drew hS3) | exact SumS.drew (SumS.drew (SumS.alloc hS3 _))) hlt2.out.1 hlt2.out.2.1 hlt2.out.2.2.1 hlt2.out.2.2.2 hg4))
        all_goals (go_wp2_with fail; go_meet; exact ⟨Lib.hid (by rw [Hpad.out, ← Ht3.out]; exact hst4), hS4⟩)
      case rest =>
      clear hS kE' hT
      obtain ⟨hE, hS⟩ := hcut
      obtain ⟨B2, hB2, hB28, hB2t, kE⟩ := hE.out
      have hX := Lib.hid (blks_len KK BG rfl (pad M) ((pad M).length / 64))
      have Hsha := Lib.hid (show sha M = bytesOf (blks KK BG (pad M) ((pad M).length / 64)) from rfl)
      generalize blks KK BG (pad M) ((pad M).length / 64) = X at *
      clear hB2 hB28 hB2t hE Hpad Hst hn
      have kq := blk1 wc 66 (U8s (bytesP X 0)).toArray
      have kE2 := kE.alloc (.cells (U8s (bytesP X 0)).toArray 66)
      have kO2 := hS.2.1.out.alloc (.cells (U8s (bytesP X 0)).toArray 66)
      have hb2 := BW_alloc hS.2.2.2.out (.cells (U8s (bytesP X 0)).toArray 66)
      have hgq := Lib.hid (And.intro kE.lt (And.intro hS.2.1.out.lt hS.2.2.2.out.size))
      clear kE hS
      go_wp2_with fail
      generalize wc.heap.size = gq at *
      go_loopw [58] (fun i wi => ∃ k : Nat, k ≤ 32 ∧ i = .int .i64 (k : Int) ∧ Hid (Blk wi gq 66 (U8s (bytesP X k)).toArray) ∧ Hid (Blk wi ge 102 (hcs X B2 ((pad M).length : Int) true)) ∧ Blk wi w.heap.size 66 (U8s z32).toArray ∧ Below w.heap.size w wi) (fun i _ => 32 - (intOf i).toNat)
      case atStart => exact ⟨0, by omega, rfl, by rw [bytesP_zero]; rw [bytesP_zero] at kq; exact kq, by rw [bytesP_zero] at kE2; exact kE2, by rw [bytesP_zero] at kO2; exact kO2, by rw [bytesP_zero] at hb2; exact hb2⟩
      case round =>
        clear kq kE2 kO2 hb2
        obtain ⟨k, hk, rfl, kq, kE, kO, hb⟩ := hrel
        by_cases hkt : k < 32
        · have hk1 : (k : Int) < 32 := by omega
          have hq : (k : Int).tdiv 4 = ((k / 4 : Nat) : Int) := by rw [Int.tdiv_eq_ediv_of_nonneg (by omega)]; omega
          have hr : (k : Int).tmod 4 = ((k % 4 : Nat) : Int) := by rw [Int.tmod_eq_emod_of_nonneg (by omega)]; omega
          have hq8 : k / 4 < 8 := by omega
          have hset := Lib.hid (bytesP_set X k)
          have ce := (kE.out.cell (k / 4)).trans (hcs_x hX.out hq8)
          have cq := (kq.out.cell k).trans (U8s_at (l := bytesP X k) (by rw [bytesP_len]; exact hkt))
          have fq := kq.out.free k
          have hr4 : k % 4 < 4 := Nat.mod_lt _ (by decide)
          generalize k / 4 = q at *
          generalize k % 4 = r at *
          have e24 : (24 : Int) - 8 * (r : Int) = ((24 - 8 * r : Nat) : Int) := by omega
          generalize (bytesP X k).getD k 0 = xo at *
          generalize X.getD q 0 = xq at *
          go_wp2_with fail
          go_roundw
          case rel =>
            refine ⟨k + 1, by omega, by go_num, Lib.hid ?_, Lib.hid (kE.out.far (p := ⟨gq, k, none⟩) (Nat.ne_of_lt hgq.out.1) _), kO.far (p := ⟨gq, k, none⟩) (Nat.ne_of_lt hgq.out.2.1) _, BW_off (p := ⟨gq, k, none⟩) hgq.out.2.2 _ hb⟩
            have h9 := kq.out.set_ k (.int .u8 (((xq / 2 ^ (24 - 8 * r) % 256).toNat : Nat) : Int))
            have e : (((xq / 2 ^ (24 - 8 * r) % 256).toNat : Nat) : Int) = xq / 2 ^ (24 - 8 * r) % 256 := Int.toNat_of_nonneg (Int.emod_nonneg _ (by decide))
            rw [U8s_set, hset.out] at h9
            rw [e] at h9
            exact h9
          case measure => simp [intOf]; omega
        · obtain rfl : k = 32 := by omega
          rw [bytesP_all] at kq
          have hl32 : (U8s (bytesOf X)).length = 32 := by simp [U8s, bytesOf]
          have Hr : Hid (wr.rangeAt gq 0 (U8s (bytesOf X))) := fun j v hj => by rw [Nat.zero_add, kq.out.cell]; simpa using hj
          have Hth : Hid (wr.there w.heap.size 0 (U8s (bytesOf X)).toArray.size) := fun j hj => by
            rw [List.size_toArray, hl32] at hj
            rw [Nat.zero_add]
            exact ⟨by rw [kO.cell, U8s_at (by unfold z32; rw [List.length_replicate]; exact hj)]; rfl, kO.free j⟩
          have hsz : Hid ((Tryd.prog.info? 66).map (·.size) = some (U8s (bytesOf X)).length) := by rw [hl32]; exact b32_size
          have hsz2 : Hid ((Tryd.prog.info? 66).map (·.size) = some (U8s (bytesOf X)).toArray.size) := by rw [List.size_toArray, hl32]; exact b32_size
          have hone : Hid ((U8s (bytesOf X)).toArray.all (·.oneCell') = true) := all_oneCell_toArray (U8s_one _)
          have ko := Lib.hid (setCells_all kO (U8s (bytesOf X)) (by rw [hl32]; rfl))
          have hbf := below_setCells (U8s (bytesOf X)) 0 _ hb (Nat.le_refl _)
          have Hl32 := Lib.hid hl32
          clear kq kE kO hl32
          go_wp2_with (first | (refine wpList_load_mid rfl 66 _ rfl gq 0 rfl (U8s (bytesOf X)) _ Hr.out Tryd.underlying66 rfl hsz.out ?_) | (refine wpList_store_mid rfl 66 _ _ rfl w.heap.size 0 (U8s (bytesOf X)).toArray rfl rfl Hth.out hsz2.out hone.out ?_))
          refine bodyPost_ret (v := .agg (U8s (bytesOf X)).toArray) (results_cell_row Tryd.results70 _ _ w.heap.size 66 _ (0, 0) _ (by rfl) ko.out Tryd.underlying66 rfl hsz2.out) rfl ⟨by unfold shaV; rw [Hsha.out], hbf⟩
end Go.Proofs.YtbimnfmjgmfijaaDoor

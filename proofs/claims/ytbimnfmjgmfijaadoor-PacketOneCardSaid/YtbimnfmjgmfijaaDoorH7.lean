/- Contracts of the hash: a hash's text; read back; hashes in order. -/
import Derived.Test.YtbimnfmjgmfijaaDoorH6
import Derived.Laws.ResultCell
namespace Go.Proofs.YtbimnfmjgmfijaaDoor
open Go.RowKit
attribute [local go_sem ↓] Go.wp_at_zero Go.wp_at_succ
def byt (L : List Nat) : ByteArray := ⟨(L.map UInt8.ofNat).toArray⟩
def IsH (L : List Nat) : Prop := L.length = 32 ∧ ∀ b ∈ L, b < 256
theorem bysN_byt {L : List Nat} (h : ∀ b ∈ L, b < 256) : bysN (byt L) = L := by
  simp only [bysN, byt, List.map_map]
  refine (List.map_congr_left fun b hb => ?_).trans (List.map_id L)
  show (UInt8.ofNat b).toNat = b
  rw [UInt8.toNat_ofNat']
  exact Nat.mod_eq_of_lt (h b hb)
theorem byt_bysN (s : ByteArray) : byt (bysN s) = s := by
  apply ByteArray.ext
  show ((s.data.toList.map UInt8.toNat).map UInt8.ofNat).toArray = s.data
  rw [List.map_map, show UInt8.ofNat ∘ UInt8.toNat = id from funext fun x => UInt8.ofNat_toNat, List.map_id, Array.toArray_toList]
theorem byt_inj {L M : List Nat} (hL : ∀ b ∈ L, b < 256) (hM : ∀ b ∈ M, b < 256) (h : byt L = byt M) : L = M := by
  rw [← bysN_byt hL, h, bysN_byt hM]
theorem byt_size (L : List Nat) : (byt L).size = L.length := by simp [byt, ByteArray.size]
theorem conv_byt (g : Nat) (t : TypeId) (L : List Nat) (hL : ∀ b ∈ L, b < 256) (c : Nat) (w' : World) (kb : Blk w' g t (U8s L).toArray) : (convert 37 9 (.slice (some ⟨g, 0, none⟩) L.length c)).run Tryd.prog w' = .ok (.string (byt L)) w' := by
  have h := run_convert_bytes_back (P := Tryd.prog) w' 37 9 5 ⟨g, 0, none⟩ c (L.map fun b => UInt8.ofNat b) Tryd.underlying37 Tryd.underlying5 Tryd.underlying9 (fun j hj => by
    have hj2 : j < L.length := by simpa using hj
    rw [addr_add, Nat.zero_add, kb.cell, U8s_at hj2, List.getElem_map, UInt8.toNat_ofNat', Nat.mod_eq_of_lt (hL _ (List.getElem_mem hj2)), List.getD_eq_getElem?_getD, List.getElem?_eq_getElem hj2]
    rfl)
  rw [List.length_map] at h
  exact h
theorem len_b32 : Tryd.prog.arrayLen 66 = 32 := by kernel_rfl
theorem und_b32 : Tryd.prog.underlying 66 = some (.array (Tryd.prog.arrayLen 66) (Tryd.prog.elem 66)) := by kernel_rfl
theorem slice_all32 (g : Nat) (w : World) :
    (Instr.sliceAt 66 (.pointer (some ⟨g, 0, none⟩)) none none none).run Tryd.prog w = .ok (.slice (some ⟨g, 0, none⟩) 32 32) w := by
  have h := run_sliceAt_array_all (P := Tryd.prog) w 66 ⟨g, 0, none⟩ und_b32
  have hs : (sizeOf (Tryd.prog.elem 66)).run Tryd.prog w = .ok 1 w := by kernel_rfl
  rw [h, hs]
  simp only [Result.andThen, slicedAt, len_b32]
  rw [if_neg (by decide), addr_add]
set_option maxRecDepth 100000 in
theorem text_any (L : List Nat) (hL : IsH L) (w : World) : Calls Tryd.prog 50 #[.agg (U8s L).toArray] w fun e w' => e = .returned (.string (byt L)) ∧ Below w.heap.size w w' := by
  have hcv := conv_byt w.heap.size 66 L hL.2 32 (w.alloc (.cells (U8s L).toArray 66)) (blk1 w _ _)
  rw [hL.1] at hcv
  have hsl := slice_all32 w.heap.size
  go_enter Tryd.func50, Tryd.ntmps50
  go_wp2_with fail
  go_ret
  exact ⟨rfl, BW_alloc (BW_refl w) _⟩
theorem range_on {w w' : World} {g o : Nat} {cs : List Value} (h : w.rangeAt g o cs) (hb : Below w.heap.size w w') : w'.rangeAt g o cs := fun j v hj => BW_cell hb (h j v hj)
theorem ls_on {w w' w'' : World} {a b : Nat} {l m : List Value} (h : w'.rangeAt a 0 l ∧ w'.rangeAt b 0 m ∧ Below w.heap.size w w') (hb : Below w'.heap.size w' w'') : w''.rangeAt a 0 l ∧ w''.rangeAt b 0 m ∧ Below w.heap.size w w'' :=
  ⟨range_on h.1 hb, range_on h.2.1 hb, BW_on h.2.2 hb⟩
theorem und_b32' : Tryd.prog.underlying 66 = some (.array 32 5) := by kernel_rfl
theorem res2 {fn : Func} {p u : Tmp} (h : fn.results = #[.cell p 66, .tmp u]) (tmps : Array Value) (w : World) (g : Nat) (t : TypeId) (cs : Array Value) (v : Value)
    (hp : tmps.getD p undef = .pointer (some ⟨g, 0, none⟩)) (hv : tmps.getD u undef = v) (hg : Blk w g t cs) (hi : (Tryd.prog.info? 66).map (·.size) = some cs.size) :
    (results fn tmps).run Tryd.prog w = .ok (.tuple #[.agg cs, v]) w := by
  rw [results_cell_tmp h, hp, hv]
  simp [asAddr, run_loadVar_row w g t 66 cs (0, 0) _ hg Tryd.underlying66 rfl hi]
end Go.Proofs.YtbimnfmjgmfijaaDoor

/- Contracts of the hash: a new hasher; how much was written. -/
import Derived.Test.YtbimnfmjgmfijaaDoorH3
import Derived.Deep.MidRow
namespace Go.Proofs.YtbimnfmjgmfijaaDoor
open Go.RowKit
attribute [local go_sem ↓] Go.wp_at_zero Go.wp_at_succ
/-- The tables, as the program's text lays them. -/
def BG : List Int := [1779033703, 3144134277, 1013904242, 2773480762, 1359893119, 2600822924, 528734635, 1541459225]
def KK : List Int := [1116352408, 1899447441, 3049323471, 3921009573, 961987163, 1508970993, 2453635748, 2870763221, 3624381080, 310598401, 607225278, 1426881987, 1925078388, 2162078206, 2614888103, 3248222580, 3835390401, 4022224774, 264347078, 604807628, 770255983, 1249150122, 1555081692, 1996064986, 2554220882, 2821834349, 2952996808, 3210313671, 3336571891, 3584528711, 113926993, 338241895, 666307205, 773529912, 1294757372, 1396182291, 1695183700, 1986661051, 2177026350, 2456956037, 2730485921, 2820302411, 3259730800, 3345764771, 3516065817, 3600352804, 4094571909, 275423344, 430227734, 506948616, 659060556, 883997877, 958139571, 1322822218, 1537002063, 1747873779, 1955562222, 2024104815, 2227730452, 2361852424, 2428436474, 2756734187, 3204031479, 3329325298]
def Tabs (w : World) : Prop := (∀ i, i < 8 → w.cell? ⟨0, i, none⟩ = some (.int .u32 (BG.getD i 0))) ∧ (∀ i, i < 64 → w.cell? ⟨2, i, none⟩ = some (.int .u32 (KK.getD i 0)))
theorem Tabs.lt {w : World} (h : Tabs w) : 2 < w.heap.size := World.block_lt_of_cell? _ _ (h.2 0 (by decide))
theorem Tabs.on {w w' : World} (h : Tabs w) (hb : Below w.heap.size w w') : Tabs w' := ⟨fun i hi => BW_cell hb (h.1 i hi), fun i hi => BW_cell hb (h.2 i hi)⟩
theorem Tabs.grown {w w' : World} {g : Nat} (h : Tabs w) (hb : w.grownBy w' (some g)) (hg : 2 < g) : Tabs w' :=
  ⟨fun i hi => hb.cell (h.1 i hi) (fun e => absurd (show 0 = g from Option.some.inj e) (by omega)), fun i hi => hb.cell (h.2 i hi) (fun e => absurd (show 2 = g from Option.some.inj e) (by omega))⟩
def z64 : List Nat := List.replicate 64 0
set_option maxRecDepth 100000 in
theorem new_any (w : World) (ht : Tabs w) : Calls Tryd.prog 68 #[] w fun e w' => e = .returned (.pointer (some ⟨w.heap.size, 0, none⟩)) ∧ w' = w.alloc (.cells (hcs BG z64 0 true) 102) := by
  have c0 := ht.1 0 (by decide)
  have c1 := ht.1 1 (by decide)
  have c2 := ht.1 2 (by decide)
  have c3 := ht.1 3 (by decide)
  have c4 := ht.1 4 (by decide)
  have c5 := ht.1 5 (by decide)
  have c6 := ht.1 6 (by decide)
  have c7 := ht.1 7 (by decide)
  simp only [BG, List.getD_cons_zero, List.getD_cons_succ] at c0 c1 c2 c3 c4 c5 c6 c7
  go_enter Tryd.func68, Tryd.ntmps68
  go_wp2_with fail
  go_ret
  exact ⟨rfl, rfl⟩
theorem HSt.new (w : World) : HSt KK BG (w.alloc (.cells (hcs BG z64 0 true) 102)) w.heap.size [] :=
  ⟨z64, rfl, fun i => by
    rw [List.getD_eq_getElem?_getD]
    cases hi : z64[i]? with
    | none => decide
    | some b => rw [List.eq_of_mem_replicate (List.mem_of_getElem? hi)]; decide, rfl, blk1 w 102 (hcs BG z64 0 true)⟩
theorem HSt.on {K Bg : List Int} {w w' : World} {g : Nat} {M : List Nat} (h : HSt K Bg w g M) (hb : Below w.heap.size w w') : HSt K Bg w' g M := by
  obtain ⟨B, h1, h2, h3, h4⟩ := h
  exact ⟨B, h1, h2, h3, h4.on hb⟩
theorem write_nil (s : ByteArray) (w : World) : Calls Tryd.prog 69 #[.pointer none, .string s] w fun e w' => e = .returned (.tuple #[]) ∧ w = w' := by
  go_enter Tryd.func69, Tryd.ntmps69
  go_wp2_with fail
  exact bodyPost_ret (v := .tuple #[]) (results_none (by rfl) _ _ _) rfl ⟨rfl, rfl⟩
theorem setCells_blk {g : Nat} {t : TypeId} : ∀ (vs : List Value) (w : World) (cur : Array Value) (o : Nat), Blk w g t cur → o + vs.length ≤ cur.size →
    Blk (w.setCells g o vs) g t (cur.toList.take o ++ vs ++ cur.toList.drop (o + vs.length)).toArray
  | [], w, cur, o, h, _ => by
    simp only [List.append_nil, List.length_nil, Nat.add_zero, List.take_append_drop, Array.toArray_toList]
    exact h
  | v :: vs, w, cur, o, h, hl => by
    have ih := setCells_blk vs (w.setCell ⟨g, o, none⟩ v) (cur.setIfInBounds o v) (o + 1) (h.set_ o v) (by simp at hl ⊢; omega)
    have e := list_seg_step cur.toList o v vs (by simp at hl ⊢; omega)
    rw [Array.toList_setIfInBounds] at ih
    show Blk ((w.setCell ⟨g, o, none⟩ v).setCells g (o + 1) vs) g t _
    rw [List.length_cons, ← e]
    exact ih
theorem setCells_all {g : Nat} {t : TypeId} {w : World} {cur : Array Value} (h : Blk w g t cur) (vs : List Value) (hl : vs.length = cur.size) : Blk (w.setCells g 0 vs) g t vs.toArray := by
  have h1 := setCells_blk vs w cur 0 h (by omega)
  rw [List.take_zero, List.nil_append, Nat.zero_add, List.drop_of_length_le (by rw [Array.length_toList]; omega), List.append_nil] at h1
  exact h1
theorem grown_cells {w w' : World} {g : Nat} : ∀ (vs : List Value) (o : Nat), w.grownBy w' (some g) → w.grownBy (w'.setCells g o vs) (some g)
  | [], _, h => h
  | v :: vs, o, h => grown_cells (w' := w'.setCell ⟨g, o, none⟩ v) vs (o + 1) (grown_set h o v)
end Go.Proofs.YtbimnfmjgmfijaaDoor

/- The seal's inner functions: a block put to a byte. -/
import Derived.Test.YtidceockbjeaoaaDoorS2
namespace Go.Proofs.YtidceockbjeaoaaDoor
open Go.RowKit
attribute [local go_sem ↓] Go.wp_at_zero Go.wp_at_succ
set_option maxHeartbeats 1000000 in
theorem sput1_any (c b g : Nat) (w : World) (hc : w.cell? ⟨g, 0, none⟩ = some (.int .u8 (b : Int))) :
    Calls Tryd.prog 56 #[.int .u8 (c : Int), .pointer (some ⟨g, 0, none⟩)] w fun e w' => e = .returned (.int .u8 ((xo b c : Nat) : Int)) ∧ w = w' := by
  have hx := xo_bits b c
  go_enter Tryd.func56, Tryd.ntmps56
  go_wp2_with fail
  go_ret
  exact ⟨rfl, rfl⟩
def xbP (b : Nat) (B : List Nat) (k : Nat) : List Nat := (B.take k).map (xo b) ++ B.drop k
theorem xbP_len (b : Nat) (B : List Nat) (k : Nat) : (xbP b B k).length = B.length := by
  unfold xbP
  rw [List.length_append, List.length_map, List.length_take, List.length_drop]
  omega
theorem xbP_set (b : Nat) (B : List Nat) (k : Nat) (h : k < B.length) : (xbP b B k).set k (xo b (B.getD k 0)) = xbP b B (k + 1) := by
  unfold xbP
  have hl : ((B.take k).map (xo b)).length = k := by rw [List.length_map, List.length_take]; omega
  rw [List.set_append_right _ _ (by omega), hl, Nat.sub_self, List.take_succ_eq_append_getElem h, List.map_append, List.append_assoc]
  rw [List.drop_eq_getElem_cons h, List.set_cons_zero, List.getD_eq_getElem?_getD, List.getElem?_eq_getElem h]
  rfl
theorem xbP_all (b : Nat) (B : List Nat) (k : Nat) (h : B.length = k) : xbP b B k = xb b B := by
  unfold xbP xb
  rw [List.take_of_length_le (by omega), List.drop_of_length_le (by omega), List.append_nil]
set_option maxHeartbeats 4000000 in
set_option maxRecDepth 100000 in
theorem sput_any (B : List Nat) (b : Nat) (w : World) (hB : B.length = 64) (hl : ∀ c ∈ B, c < 256) :
    Calls Tryd.prog 44 #[.agg (U8s B).toArray, .int .u8 (b : Int)] w fun e w' => e = .returned (.string (byt (xb b B))) ∧ Below w.heap.size w w' := by
  have hmf : ∀ (fn : Fn) (first cap : Array Value) (w : World), (Instr.makeFunc fn first cap).run Tryd.prog w = .ok (.func fn first cap) w := fun _ _ _ _ => rfl
  have Hl := Lib.hid hl
  have HB := Lib.hid hB
  clear hB hl
  go_enter Tryd.func44, Tryd.ntmps44
  have ka := (blk1 w 48 (U8s B).toArray).alloc (.cells #[.int .u8 (b : Int)] 5)
  have kc := blk1 (w.alloc (.cells (U8s B).toArray 48)) 5 #[.int .u8 (b : Int)]
  have hb := BW_alloc (BW_alloc (BW_refl w) (.cells (U8s B).toArray 48)) (.cells #[.int .u8 (b : Int)] 5)
  have hg3 : (w.alloc (.cells (U8s B).toArray 48)).heap.size = w.heap.size + 1 := by simp
  rw [hg3] at kc
  have hlen : (U8s B).length = 64 := by rw [U8s_len]; exact HB.out
  have hsz : Hid ((Tryd.prog.info? 48).map (·.size) = some (U8s B).length) := by rw [hlen]; exact b64_size
  have Hund : Hid (Tryd.prog.underlying 48 = some (.array 64 5)) := Lib.hid (by kernel_rfl)
  go_upto_region 1 with (fail)
  change Code.wp _ _ _ _ ((w.alloc (.cells (U8s B).toArray 48)).alloc (.cells #[.int .u8 (b : Int)] 5))
  generalize (w.alloc (.cells (U8s B).toArray 48)).alloc (.cells #[.int .u8 (b : Int)] 5) = W at *
  generalize hgc : w.heap.size + 1 = gc at *
  have Hr : Hid (W.rangeAt w.heap.size 0 (U8s B)) := fun j v hj => by rw [Nat.zero_add, ka.cell]; simpa using hj
  clear hg3 hlen
  go_wp2_with (refine wpList_load_mid rfl 48 _ rfl w.heap.size 0 rfl (U8s B) _ Hr.out Hund.out rfl hsz.out ?_)
  clear Hr hmf
  have Hgc := Lib.hid hgc
  clear hgc
  go_loopw [10] (fun i wi => ∃ k : Nat, k ≤ 64 ∧ i = .int .i64 (k : Int) ∧ Blk wi w.heap.size 48 (U8s (xbP b B k)).toArray ∧ Blk wi gc 5 #[.int .u8 (b : Int)] ∧ Below w.heap.size w wi) (fun i _ => 64 - (intOf i).toNat)
  case atStart => exact ⟨0, by omega, rfl, ka, kc, hb⟩
  case round =>
    clear ka kc hb
    obtain ⟨k, hk, rfl, ka, kc, hb⟩ := hrel
    by_cases h0 : k < 64
    · have hk1 : (k : Int) < 64 := by omega
      have hidx := idx64 B HB.out k h0
      have hset := Lib.hid (xbP_set b B k (by rw [HB.out]; exact h0))
      have cx := (ka.cell k).trans (U8s_at (l := xbP b B k) (by rw [xbP_len, HB.out]; exact h0))
      have fx := ka.free k
      have cb := kc.cell 0
      generalize (xbP b B k).getD k 0 = xk at *
      generalize B.getD k 0 = c at *
      go_wp2_with (go_at_call 56; refine (sput1_any c b gc _ cb).mono ?_; rintro e w' ⟨rfl, rfl⟩)
      go_roundw
      case rel =>
        refine ⟨k + 1, by omega, by go_num, ?_, kc.far (p := ⟨w.heap.size, k, none⟩) (by have h9 := Hgc.out; show gc ≠ w.heap.size; omega) _, BW_off (p := ⟨w.heap.size, k, none⟩) (Nat.le_refl _) _ hb⟩
        have h9 := ka.set_ k (.int .u8 ((xo b c : Nat) : Int))
        rw [U8s_set, hset.out] at h9
        exact h9
      case measure => simp [intOf]; omega
    · obtain rfl : k = 64 := by omega
      rw [xbP_all b B 64 HB.out] at ka
      have hsl := slice_all64 w.heap.size
      have hcv := conv_byt w.heap.size 48 (xb b B) (xb_lt b B) 64 wr ka
      rw [xb_len, HB.out] at hcv
      go_wp2_with fail
      go_ret
      exact ⟨rfl, hb⟩
theorem fold_set : ∀ (L : List Value) (k : Nat) (A : Array Value), k + L.length = A.size → ((L.zipIdx k).foldl (fun cs x => cs.setIfInBounds x.2 x.1) A).toList = A.toList.take k ++ L
  | [], k, A, h => by
    simp at h
    rw [List.zipIdx_nil, List.foldl_nil, List.append_nil, List.take_of_length_le (by simp; omega)]
  | v :: L, k, A, h => by
    simp at h
    rw [List.zipIdx_cons, List.foldl_cons, fold_set L (k + 1) _ (by simp; omega), Array.toList_setIfInBounds]
    have hk : k < A.toList.length := by simp; omega
    rw [List.take_succ_eq_append_getElem (by simpa using hk), List.getElem_set_self, List.take_set_of_le (Nat.le_refl k), List.append_assoc]
    rfl
set_option maxHeartbeats 4000000 in
theorem snew_any (key : ByteArray) (w : World) (h1 : key.size ≤ 1000000) (ht : Hid (Tabs w)) :
    Calls Tryd.prog 34 #[.string key] w fun e w' => ∃ g, e = .returned (.pointer (some ⟨g, 0, none⟩)) ∧ w.heap.size ≤ g ∧ Blk w' g 66 (U8s (kb (bysN key))).toArray ∧ Below w.heap.size w w' := by
  go_enter Tryd.func34, Tryd.ntmps34
  go_wp2_with fail
  refine (sblock_any key _ h1 ht).mono ?_
  rintro e w2 ⟨rfl, hb2⟩
  have hl : (U8s (kb (bysN key))).length = 64 := by rw [U8s_len, kb_len]
  generalize hkB : kb (bysN key) = B at *
  have HkB := Bx.mk hkB
  clear hkB
  go_wp2_with fail
  go_ret
  have hf := fold_set (U8s B) 0 (U8s z64).toArray (by rw [hl]; rfl)
  rw [List.take_zero, List.nil_append] at hf
  refine ⟨w2.heap.size, rfl, hb2.size, ?_, BW_alloc hb2 _⟩
  rw [HkB.out]
  show Blk (w2.alloc (.cells (List.foldl (fun cs x => cs.setIfInBounds x.2 x.1) (U8s z64).toArray (U8s B).zipIdx) 66)) w2.heap.size 66 (U8s B).toArray
  have hf2 := congrArg List.toArray hf
  rw [Array.toArray_toList] at hf2
  rw [hf2]
  exact blk1 _ _ _
end Go.Proofs.YtidceockbjeaoaaDoor

/- Contract of the document's answer for the hash: a hash's text. -/
import Derived.Test.YtbimnfmjgmfijaaDoorHNil
import Derived.Test.YtbimnfmjgmfijaaDoorYk
import Derived.Test.YtbimnfmjgmfijaaDoorDe
namespace Go.Proofs.YtbimnfmjgmfijaaDoor
open Go.RowKit
attribute [local go_sem ↓] Go.wp_at_zero Go.wp_at_succ
theorem infoU8 : (Tryd.prog.info? 5).map (fun i => (i.zero, i.size, i.bytes)) = some (some (.int .u8 0), 1, 1) := by kernel_rfl
theorem U8s_take_succ (L : List Nat) (k : Nat) (h : k < L.length) : U8s (L.take (k + 1)) = U8s (L.take k) ++ [.int .u8 ((L.getD k 0 : Nat) : Int)] := by
  rw [List.take_succ_eq_append_getElem h, U8s, List.map_append, List.getD_eq_getElem?_getD, List.getElem?_eq_getElem h]
  rfl
theorem conv_own (g : Nat) (w : World) (base n cap : Nat) (L : List Nat) (hL : ∀ b ∈ L, b < 256) (hn : n = L.length) (hown : w.ownsRow base 5 1 (.slice (some ⟨g, 0, none⟩) n cap) n (U8s L)) :
    (convert 37 9 (.slice (some ⟨g, 0, none⟩) n cap)).run Tryd.prog w = .ok (.string (byt L)) w := by
  subst hn
  have h := run_convert_bytes_back (P := Tryd.prog) w 37 9 5 ⟨g, 0, none⟩ cap (L.map fun b => UInt8.ofNat b) Tryd.underlying37 Tryd.underlying5 Tryd.underlying9 (fun j hj => by
    have hj2 : j < L.length := by simpa using hj
    have e2 : (U8s L)[j]? = some (.int .u8 ((L.getD j 0 : Nat) : Int)) := by
      have := U8s_at hj2
      simpa using this
    rw [addr_add, Nat.zero_add, hown.cellAt j (by simpa [U8s] using hj2), e2, List.getElem_map, UInt8.toNat_ofNat', Nat.mod_eq_of_lt (hL _ (List.getElem_mem hj2)), List.getD_eq_getElem?_getD, List.getElem?_eq_getElem hj2]
    rfl)
  rw [List.length_map] at h
  exact h
set_option maxHeartbeats 1000000 in
theorem rtext_any (L : List Nat) (hL : IsH L) (w : World) : Calls Tryd.prog 52 #[.agg (U8s L).toArray] w fun e w' => e = .returned (.string (byt L)) ∧ Below w.heap.size w w' := by
  obtain ⟨i0, hi0, iz0, iz1, iz2⟩ := info_parts infoU8
  have hl := Lib.hid hL.1
  have hlt := Lib.hid hL.2
  clear hL
  go_enter Tryd.func52, Tryd.ntmps52
  have kb := blk1 w 66 (U8s L).toArray
  have hb0 := BW_alloc (BW_refl w) (.cells (U8s L).toArray 66)
  go_wp2_with fail
  go_loopw [3, 4] (fun v i wr => ∃ k : Nat, k ≤ 32 ∧ i = .int .i64 (k : Int) ∧ Blk wr w.heap.size 66 (U8s L).toArray ∧ wr.ownsRow (w.heap.size + 1) 5 1 v k (U8s (L.take k)) ∧ Below w.heap.size w wr) (fun _ i _ => 32 - (intOf i).toNat)
  case atStart => exact ⟨0, by omega, rfl, kb, World.ownsRow_nil _ _ _ _, hb0⟩
  case round =>
    clear kb hb0
    obtain ⟨k, hk, rfl, hblk, hown, hb⟩ := hrel
    by_cases h0 : k < 32
    · have hk1 : (k : Int) < 32 := by omega
      have hc := (hblk.cell k).trans (U8s_at (by rw [hl.out]; exact h0))
      have hs := Lib.hid (U8s_take_succ L k (by rw [hl.out]; exact h0))
      have hz := hb.size
      have hlt2 : w.heap.size < wr.heap.size := hblk.lt
      go_wp2_with (at_builtin; go_must (refine wpList_push_at rfl _ _ 37 rfl (w.heap.size + 1) 5 i0 (.int .u8 0) 1 1 Tryd.underlying37 hi0 iz0 iz1 iz2 rfl (by decide) _ _ _ rfl hown [.int .u8 ((L.getD k 0 : Nat) : Int)] _ rfl (by simp) rfl rfl (by unfold maxLen; omega) (by omega) (by omega) ?_); intro v1 w3 hown3 hb3 hz3)
      rw [← hs.out] at hown3
      go_roundw
      case rel => exact ⟨k + 1, by omega, by go_num, hblk.below hb3 (by omega), hown3, hb.trans (hb3.mono (by omega))⟩
      case measure => simp [intOf]; omega
    · obtain rfl : k = 32 := by omega
      obtain ⟨g, cap, rfl, hg1, hg2, _, _⟩ := own_form hown (by omega)
      rw [List.take_of_length_le (by rw [hl.out]; exact Nat.le_refl _)] at hown
      have hcv := conv_own g wr _ 32 cap L hlt.out hl.out.symm hown
      go_wp2_with fail
      go_ret
      exact ⟨rfl, hb⟩
/-- Boxes that hold hashes; the tables; nothing older has turned. -/
def HB (w0 : World) (bs : List (Nat × List Nat)) (w : World) : Prop := (∀ p ∈ bs, RH w p.1 p.2) ∧ Tabs w ∧ Below w0.heap.size w0 w
theorem HB.on {w0 w w' : World} {bs : List (Nat × List Nat)} (h : HB w0 bs w) (hb : Below w.heap.size w w') : HB w0 bs w' := ⟨fun p hp => (h.1 p hp).on hb, h.2.1.on hb, BW_on h.2.2 hb⟩
theorem HB.drew {w0 w : World} {bs : List (Nat × List Nat)} (h : HB w0 bs w) : HB w0 bs w.drew := h.on (Below.refl _ _).drew
theorem HB.nil {w0 : World} (ht : Tabs w0) : HB w0 [] w0 := ⟨(fun _ h => absurd h (List.not_mem_nil)), ht, BW_refl w0⟩
theorem HB.at {w0 w : World} {bs : List (Nat × List Nat)} (h : HB w0 bs w) {p : Nat × List Nat} (hp : p ∈ bs) : RH w p.1 p.2 := h.1 p hp
theorem RH.lt {w : World} {b : Nat} {L : List Nat} (h : RH w b L) : b < w.heap.size := by
  have h0 := h.2 0 (.int .u8 ((L.getD 0 0 : Nat) : Int)) (by
    have := U8s_at (l := L) (i := 0) (by rw [h.1.1]; decide)
    simpa using this)
  exact World.block_lt_of_cell? _ _ h0
theorem RH.grown {w w' : World} {b g : Nat} {L : List Nat} (h : RH w b L) (hb : w.grownBy w' (some g)) (hne : g ≠ b) : RH w' b L := by
  refine ⟨h.1, fun j v hj => ?_⟩
  have h2 := h.2 j v hj
  have hblk := hb.block b h.lt (fun e => hne (Option.some.inj e).symm)
  unfold World.cell? at h2 ⊢
  simp only [hblk]
  exact h2
theorem HB.grown {w0 w w' : World} {bs : List (Nat × List Nat)} {g : Nat} (h : HB w0 bs w) (hb : w.grownBy w' (some g)) (hg : w0.heap.size ≤ g) (h1 : 2 < g) (hne : ∀ p ∈ bs, g ≠ p.1) : HB w0 bs w' :=
  ⟨fun p hp => (h.1 p hp).grown hb (hne p hp), h.2.1.grown hb h1, Below.grownA h.2.2 hb hg⟩
theorem HB.box {w0 w : World} {bs : List (Nat × List Nat)} (h : HB w0 bs w) {L : List Nat} (hL : IsH L) : HB w0 ((w.heap.size, L) :: bs) (w.alloc (.cells (U8s L).toArray 66)) := by
  have hb := BW_alloc (BW_refl w) (.cells (U8s L).toArray 66)
  refine ⟨fun p hp => ?_, (h.on hb).2⟩
  rcases List.mem_cons.1 hp with rfl | hp
  · exact RH.mk' hL (blk1 w 66 (U8s L).toArray)
  · exact (h.on hb).1 p hp
theorem hash_len {L : List Nat} (h : IsH L) : (U8s L).length = 32 := by rw [show (U8s L).length = L.length by simp [U8s]]; exact h.1
theorem hash_there (W : World) {L : List Nat} (h : IsH L) : (W.alloc (.cells (U8s z32).toArray 66)).there W.heap.size 0 (U8s L).toArray.size := fun j hj => by
  rw [List.size_toArray, hash_len h] at hj
  rw [Nat.zero_add]
  have kn := blk1 W 66 (U8s z32).toArray
  exact ⟨by rw [kn.cell, Array.getElem?_eq_getElem hj]; rfl, kn.free j⟩
theorem hash_sz {L : List Nat} (h : IsH L) : (Tryd.prog.info? 66).map (·.size) = some (U8s L).toArray.size := by rw [List.size_toArray, hash_len h]; exact b32_size
theorem hash_szl {L : List Nat} (h : IsH L) : (Tryd.prog.info? 66).map (·.size) = some (U8s L).length := by rw [hash_len h]; exact b32_size
theorem hash_one (L : List Nat) : (U8s L).toArray.all (·.oneCell') = true := all_oneCell_toArray (U8s_one _)
theorem HB.put {w0 w : World} {bs : List (Nat × List Nat)} (h : HB w0 bs w) {L : List Nat} (hL : IsH L) : HB w0 ((w.heap.size, L) :: bs) ((w.alloc (.cells (U8s z32).toArray 66)).setCells w.heap.size 0 (U8s L)) := by
  have hb := BW_alloc (BW_refl w) (.cells (U8s z32).toArray 66)
  have hg := grown_cells (U8s L) 0 (World.grownBy.refl (w.alloc (.cells (U8s z32).toArray 66)) (some w.heap.size))
  have h2 := (h.on hb).grown hg h.2.2.size h.2.1.lt (fun p hp => Nat.ne_of_gt (h.1 p hp).lt)
  refine ⟨fun p hp => ?_, h2.2⟩
  rcases List.mem_cons.1 hp with rfl | hp
  · exact RH.mk' hL (setCells_all (blk1 w 66 (U8s z32).toArray) (U8s L) (by rw [hash_len hL]; rfl))
  · exact h2.1 p hp
/-- Equality of texts, and of hashes, as a region's operator. -/
theorem str_eq (x y : Operand) (a b : ByteArray) (w : World) : (do eqGuard .eql 9 x y (.string a) (.string b); binOp .eql 9 (.string a) (.string b) : Sem Value).run Tryd.prog w = .ok (.bool (decide (a = b))) w := by
  rw [← beq_kl]
  go_simp
theorem hash_eq {L M : List Nat} (hL : IsH L) (hM : IsH M) (x y : Operand) (w : World) : (do eqGuard .eql 66 x y (.agg (U8s L).toArray) (.agg (U8s M).toArray); binOp .eql 66 (.agg (U8s L).toArray) (.agg (U8s M).toArray) : Sem Value).run Tryd.prog w = .ok (.bool (decide (L = M))) w := by
  have h := eq_hash L M hL hM w
  go_simp
theorem str_eq_rfl (x y : Operand) (a : ByteArray) (w : World) : (do eqGuard .eql 9 x y (.string a) (.string a); binOp .eql 9 (.string a) (.string a) : Sem Value).run Tryd.prog w = .ok (.bool true) w := by
  rw [str_eq, decide_eq_true rfl]
theorem hash_eq_rfl {L : List Nat} (hL : IsH L) (x y : Operand) (w : World) : (do eqGuard .eql 66 x y (.agg (U8s L).toArray) (.agg (U8s L).toArray); binOp .eql 66 (.agg (U8s L).toArray) (.agg (U8s L).toArray) : Sem Value).run Tryd.prog w = .ok (.bool true) w := by
  rw [hash_eq hL hL, decide_eq_true rfl]
end Go.Proofs.YtbimnfmjgmfijaaDoor

/- Contract of the document's answer for the hash: a text's, with the tables as they come out. -/
import Derived.Test.YtbimnfmjgmfijaaDoorT5
import Derived.StillTailTactics
namespace Go.Proofs.YtbimnfmjgmfijaaDoor
open Go.RowKit
attribute [local go_sem ↓] Go.wp_at_zero Go.wp_at_succ
set_option maxHeartbeats 4000000 in
set_option maxRecDepth 100000 in
theorem rquick_any (t : ByteArray) (w : World) (hsz : t.size ≤ 4398046511104) :
    Calls Tryd.prog 53 #[.string t] w fun e w' => e = .returned (shaV (bysN t)) ∧ Below w.heap.size w w' := by
  go_enter Tryd.func53, Tryd.ntmps53
  have kt := blk1 (w.alloc (.cells (U8s z32).toArray 66)) 95 #[.slice none 0 0, .slice none 0 0]
  have kr := (blk1 w 66 (U8s z32).toArray).alloc (.cells #[.slice none 0 0, .slice none 0 0] 95)
  have hb := BW_alloc (BW_alloc (BW_refl w) (.cells (U8s z32).toArray 66)) (.cells #[.slice none 0 0, .slice none 0 0] 95)
  go_upto_region 2 with (fail)
  change Code.wp _ _ _ _ ((w.alloc (.cells (U8s z32).toArray 66)).alloc (.cells #[.slice none 0 0, .slice none 0 0] 95))
  generalize (w.alloc (.cells (U8s z32).toArray 66)).alloc (.cells #[.slice none 0 0, .slice none 0 0] 95) = W at *
  have hg : (w.alloc (.cells (U8s z32).toArray 66)).heap.size = w.heap.size + 1 := by simp
  rw [hg] at kt
  have hgr0 : w.heap.size < W.heap.size := by have := kt.lt; omega
  generalize hgt : w.heap.size + 1 = gt at *
  have hgtr : w.heap.size ≠ gt := by omega
  have hgt2 : w.heap.size ≤ gt := by omega
  have c0 : ∀ o, (W.alloc o).cell? ⟨gt, 0, none⟩ = some (.slice none 0 0) := fun o => (kt.alloc o).cell 0
  have f0 : ∀ o, (W.alloc o).frozen? ⟨gt, 0, none⟩ = false := fun o => (kt.alloc o).free 0
  go_upto_region 3 with (fail)
  change Code.wp _ _ _ _ ((W.alloc (.cells (U32 BG).toArray 96)).setCell ⟨gt, 0, none⟩ (.slice (some ⟨W.heap.size, 0, none⟩) 8 8))
  have kB := (blk1 W 96 (U32 BG).toArray).far (p := ⟨gt, 0, none⟩) (Nat.ne_of_gt kt.lt) (.slice (some ⟨W.heap.size, 0, none⟩) 8 8)
  have kt2 := (kt.alloc (.cells (U32 BG).toArray 96)).set_ 0 (.slice (some ⟨W.heap.size, 0, none⟩) 8 8)
  have kr2 := (kr.alloc (.cells (U32 BG).toArray 96)).far (p := ⟨gt, 0, none⟩) hgtr (.slice (some ⟨W.heap.size, 0, none⟩) 8 8)
  have hb2 := BW_off (p := ⟨gt, 0, none⟩) hgt2 (.slice (some ⟨W.heap.size, 0, none⟩) 8 8) (BW_alloc hb (.cells (U32 BG).toArray 96))
  have hB8 : W.heap.size ≠ gt := Nat.ne_of_gt kt.lt
  clear c0 f0 kt kr hb hg
  generalize (W.alloc (.cells (U32 BG).toArray 96)).setCell ⟨gt, 0, none⟩ (.slice (some ⟨W.heap.size, 0, none⟩) 8 8) = V at *
  generalize W.heap.size = gB at *
  have c0 : ∀ o, (V.alloc o).cell? ⟨gt, 1, none⟩ = some (.slice none 0 0) := fun o => (kt2.alloc o).cell 1
  have f0 : ∀ o, (V.alloc o).frozen? ⟨gt, 1, none⟩ = false := fun o => (kt2.alloc o).free 1
  go_upto_region 4 with (fail)
  change Code.wp _ _ _ _ ((V.alloc (.cells (U32 KK).toArray 96)).setCell ⟨gt, 1, none⟩ (.slice (some ⟨V.heap.size, 0, none⟩) 64 64))
  have kK := (blk1 V 96 (U32 KK).toArray).far (p := ⟨gt, 1, none⟩) (Nat.ne_of_gt kt2.lt) (.slice (some ⟨V.heap.size, 0, none⟩) 64 64)
  have kt3 := (kt2.alloc (.cells (U32 KK).toArray 96)).set_ 1 (.slice (some ⟨V.heap.size, 0, none⟩) 64 64)
  have kr3 := (kr2.alloc (.cells (U32 KK).toArray 96)).far (p := ⟨gt, 1, none⟩) hgtr (.slice (some ⟨V.heap.size, 0, none⟩) 64 64)
  have kB3 := (kB.alloc (.cells (U32 KK).toArray 96)).far (p := ⟨gt, 1, none⟩) hB8 (.slice (some ⟨V.heap.size, 0, none⟩) 64 64)
  have hb3 := BW_off (p := ⟨gt, 1, none⟩) hgt2 (.slice (some ⟨V.heap.size, 0, none⟩) 64 64) (BW_alloc hb2 (.cells (U32 KK).toArray 96))
  clear c0 f0 kt2 kr2 hb2 kB
  generalize (V.alloc (.cells (U32 KK).toArray 96)).setCell ⟨gt, 1, none⟩ (.slice (some ⟨V.heap.size, 0, none⟩) 64 64) = Y at *
  generalize V.heap.size = gK at *
  have HB : Hid (∀ i, i < 8 → Y.cell? ⟨gB, i, none⟩ = some (.int .u32 (BG.getD i 0))) := Lib.hid (fun i hi => (kB3.cell i).trans (U32_at (l := BG) hi))
  have HK : Hid (∀ i, i < 64 → Y.cell? ⟨gK, i, none⟩ = some (.int .u32 (KK.getD i 0))) := Lib.hid (fun i hi => (kK.cell i).trans (U32_at (l := KK) hi))
  have ct0 : Y.cell? ⟨gt, 0, none⟩ = some (.slice (some ⟨gB, 0, none⟩) 8 8) := kt3.cell 0
  have ct1 : Y.cell? ⟨gt, 1, none⟩ = some (.slice (some ⟨gK, 0, none⟩) 64 64) := kt3.cell 1
  have Hsh := Lib.hid (sha_IsH (bysN t))
  have Hsv := Bx.mk (show shaV (bysN t) = .agg (U8s (sha (bysN t))).toArray from rfl)
  generalize sha (bysN t) = L at *
  have hszL : Hid ((Tryd.prog.info? 66).map (·.size) = some (U8s L).toArray.size) := hash_sz Hsh.out
  have hone : Hid ((U8s L).toArray.all (·.oneCell') = true) := hash_one L
  go_wp2_with fail
  refine (rsum_any gB gK 8 64 t _ hsz HB HK).mono ?_
  rw [Hsv.out]
  rintro e w2 ⟨rfl, hbk⟩
  have kr4 := Lib.hid (kr3.on hbk)
  have hb4 := Lib.hid (BW_on hb3 hbk)
  have Hth : Hid (w2.there w.heap.size 0 (U8s L).toArray.size) := Lib.hid (fun j hj => by
    rw [List.size_toArray, hash_len Hsh.out] at hj
    rw [Nat.zero_add]
    exact ⟨by rw [kr4.out.cell, U8s_at (l := z32) hj]; rfl, kr4.out.free j⟩)
  clear hbk kr3 hb3
  go_wp2_with (refine wpList_store_mid rfl 66 _ _ rfl w.heap.size 0 (U8s L).toArray rfl rfl Hth.out hszL.out hone.out ?_)
  have ko := setCells_all kr4.out (U8s L) (by rw [hash_len Hsh.out]; rfl)
  have hbf := below_setCells (U8s L) 0 _ hb4.out (Nat.le_refl _)
  refine bodyPost_ret (v := .agg (U8s L).toArray) (results_cell_row Tryd.results53 _ _ w.heap.size 66 _ (0, 0) _ (by rfl) ko Tryd.underlying66 rfl hszL.out) rfl ⟨by rw [Hsv.out], hbf⟩
end Go.Proofs.YtbimnfmjgmfijaaDoor

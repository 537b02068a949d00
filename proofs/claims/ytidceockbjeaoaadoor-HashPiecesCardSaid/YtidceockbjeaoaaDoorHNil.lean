/- The law HashNil: no hasher has nothing; a zero one is new: for every input (the walk). -/
import Derived.Test.YtidceockbjeaoaaDoorHOrder
namespace Go.Proofs.YtidceockbjeaoaaDoor
open Go.RowKit
attribute [local go_sem ↓] Go.wp_at_zero Go.wp_at_succ
def shN (s : ByteArray) (n : Nat) : ByteArray := if n < s.size then s.extract 0 n else s
theorem shN_size (s : ByteArray) (n : Nat) : (shN s n).size ≤ n := by
  unfold shN
  split
  · simp; omega
  · omega
theorem short02_any (s : ByteArray) (n : Nat) (w : World) : Calls Tryd.prog 16 #[.string s, .int .i64 (n : Int)] w fun e w' => e = .returned (.string (shN s n)) ∧ w = w' := by
  by_cases h : n < s.size
  · have e : shN s n = s.extract 0 n := if_pos h
    have h1 : (n : Int) < (s.size : Int) := by omega
    have h2 : (n : Int) ≤ (s.size : Int) := by omega
    rw [e]
    clear h e
    go_enter Tryd.func16, Tryd.ntmps16
    go_wp2_with fail
    go_ret
    exact ⟨by first | rfl | simp, rfl⟩
  · have e : shN s n = s := if_neg h
    have h1 : ¬ (n : Int) < (s.size : Int) := by omega
    rw [e]
    clear h e
    go_enter Tryd.func16, Tryd.ntmps16
    go_wp2_with fail
    go_ret
    exact ⟨rfl, rfl⟩
def NilS (w0 : World) (gn gz : Nat) (w : World) : Prop := RH w gn (sha []) ∧ Blk w gz 50 (hcs [0, 0, 0, 0, 0, 0, 0, 0] z64 0 false) ∧ Tabs w ∧ Below w0.heap.size w0 w
theorem NilS.drew {w0 w : World} {gn gz : Nat} (h : NilS w0 gn gz w) : NilS w0 gn gz w.drew := ⟨⟨h.1.1, (World.rangeAt_drew _ _ _ _).2 h.1.2⟩, h.2.1.drew, ⟨h.2.2.1.1, h.2.2.1.2⟩, h.2.2.2.drew⟩
theorem strs1 (w : World) (s : ByteArray) : Strs (w.alloc (.cells #[.string s] 9)) (.slice (some ⟨w.heap.size, 0, none⟩) 1 1) [s] := ⟨_, 1, rfl, fun _ => ⟨_, _, rfl, fun i hi => by
    obtain rfl : i = 0 := by simpa using hi
    rw [(blk1 w 9 #[.string s]).cell]; rfl⟩⟩
theorem NilS.on {w0 w w' : World} {gn gz : Nat} (h : NilS w0 gn gz w) (hb : Below w.heap.size w w') : NilS w0 gn gz w' := ⟨h.1.on hb, h.2.1.on hb, h.2.2.1.on hb, BW_on h.2.2.2 hb⟩
set_option maxHeartbeats 4000000 in
set_option maxRecDepth 100000 in
theorem hnil_any (s : ByteArray) (w : World) (ht : Hid (Tabs w)) :
    Calls Tryd.prog 7 #[.string s] w fun e w' => e = .returned (.bool true) ∧ Below w.heap.size w w' := by
  have hsz := shN_size s 100
  have h1w := ht.out.lt
  have hsh := Lib.hid (short02_any s 100)
  generalize shN s 100 = t at *
  go_enter Tryd.func7, Tryd.ntmps7
  have kz := blk1 w 50 (hcs [0, 0, 0, 0, 0, 0, 0, 0] z64 0 false)
  have hT := Lib.hid (ht.out.on (BW_alloc (BW_refl w) (.cells (hcs [0, 0, 0, 0, 0, 0, 0, 0] z64 0 false) 50)))
  have hb := BW_alloc (BW_refl w) (.cells (hcs [0, 0, 0, 0, 0, 0, 0, 0] z64 0 false) 50)
  go_upto_region 3 with (fail)
  change Code.wp _ _ _ _ (w.alloc (.cells (hcs [0, 0, 0, 0, 0, 0, 0, 0] z64 0 false) 50))
  generalize w.alloc (.cells (hcs [0, 0, 0, 0, 0, 0, 0, 0] z64 0 false) 50) = W at *
  go_wp2_with fail
  refine (hsh.out _).mono ?_
  rintro e w' ⟨rfl, rfl⟩
  go_wp2_with fail
  refine (write_nil t _).mono ?_
  rintro e w' ⟨rfl, rfl⟩
  go_wp2_with fail
  refine (hof_any (.slice none 0 0) [] _ (Lib.hid ⟨none, 0, rfl, fun h => absurd h (Nat.lt_irrefl _)⟩) hT (by decide) (by decide)).mono ?_
  rintro e w3 ⟨rfl, hb3⟩
  rw [show allB [] = [] from rfl]
  replace kz := kz.on hb3
  replace hT := Lib.hid (hT.out.on hb3)
  replace hb := BW_on hb hb3
  clear hb3
  -- REGION
  have hl32 : (U8s (sha [])).length = 32 := by rw [show (U8s (sha [])).length = (sha []).length by simp [U8s]]; exact (sha_IsH []).1
  have kn := blk1 w3 26 (U8s z32).toArray
  have kz2 := kz.alloc (.cells (U8s z32).toArray 26)
  have hT2 := hT.out.on (BW_alloc (BW_refl _) (.cells (U8s z32).toArray 26))
  have hb2 := BW_alloc hb (.cells (U8s z32).toArray 26)
  have hzl := kz.lt
  have hbz := hb.size
  unfold shaV
  have Hth : Hid ((w3.alloc (.cells (U8s z32).toArray 26)).there w3.heap.size 0 (U8s (sha [])).toArray.size) := fun j hj => by
    rw [List.size_toArray, hl32] at hj
    rw [Nat.zero_add]
    exact ⟨by rw [kn.cell, Array.getElem?_eq_getElem hj]; rfl, kn.free j⟩
  have hsz2 : Hid ((Tryd.prog.info? 26).map (·.size) = some (U8s (sha [])).toArray.size) := by rw [List.size_toArray, hl32]; exact b32_size
  have hszN : Hid ((Tryd.prog.info? 26).map (·.size) = some (U8s (sha [])).length) := by rw [hl32]; exact b32_size
  have hone : Hid ((U8s (sha [])).toArray.all (·.oneCell') = true) := all_oneCell_toArray (U8s_one _)
  have hS : NilS w w3.heap.size w.heap.size ((w3.alloc (.cells (U8s z32).toArray 26)).setCells w3.heap.size 0 (U8s (sha []))) :=
    ⟨RH.mk' (sha_IsH []) (setCells_all kn (U8s (sha [])) (by rw [hl32]; rfl)), Blk.farCells _ _ _ kz2 (Nat.ne_of_lt hzl), hT2.grown (grown_cells _ _ (World.grownBy.refl _ (some w3.heap.size))) (Nat.lt_trans h1w hzl), below_setCells _ _ _ hb2 (Nat.le_of_lt hzl)⟩
  have heqN := eq_hash (sha []) (sha []) (sha_IsH []) (sha_IsH [])
  rw [decide_eq_true rfl] at heqN
  clear kn kz2 hT2 hb2 kz hT hb
  go_upto_region 6 with (first | (refine wpList_store_mid rfl 26 _ _ rfl w3.heap.size 0 (U8s (sha [])).toArray rfl rfl Hth.out hsz2.out hone.out ?_))
  change Code.wp _ _ _ _ ((w3.alloc (.cells (U8s z32).toArray 26)).setCells w3.heap.size 0 (U8s (sha [])))
  generalize (w3.alloc (.cells (U8s z32).toArray 26)).setCells w3.heap.size 0 (U8s (sha [])) = V at *
  generalize w3.heap.size = gn at *
  clear Hth hsz2 hone
  have hsv : shaV [] = .agg (U8s (sha [])).toArray := rfl
  refine wp_region_held_drew (S := fun w' => NilS w gn w.heap.size w') (by kernel_rfl) hS.drew (fun hH0 => ?_)
  refine wpAnyH_take (i := 0) (v := .pointer none) rfl (by kernel_rfl) (by kernel_rfl) (by kernel_rfl) (fun _ _ _ h => h) (Or.inl ⟨by rfl, fun w' _ => by go_simp⟩) hH0 ?_
  refine wpAnyH_take (i := 2) (v := .agg (U8s (sha [])).toArray) rfl (by kernel_rfl) (by kernel_rfl) (by kernel_rfl) (fun _ _ _ h => h) (yieldsIf_load_mid (by rfl) _ _ rfl _ _ rfl (U8s (sha [])) _ (fun _ h => h.1.2) Tryd.underlying26 rfl hszN.out) hH0 ?_
  refine wpAnyH_ready (rs := [1]) (by kernel_rfl) (by simp) ?_
  refine AllReadyH.cons rfl (fun K hK => ?_) AllReadyH.nil
  go_simp
  go_at_call 24
  refine (sum_nil_ [] _ (Lib.hid rfl) (Lib.hid hH0.2.2.1)).mono ?_
  rintro e w1 ⟨rfl, hd1⟩
  go_wp2_with fail
  refine hK.out _ _ (NilS.on hH0 hd1) (fun hH1 => ?_)
  clear hK K
  refine wpAnyH_take (i := 3) (v := .bool false) rfl (by kernel_rfl) (by kernel_rfl) (by kernel_rfl) (fun _ _ _ h => h) (Or.inl ⟨by rfl, fun w' _ => by go_simp⟩) hH1 ?_
  refine wpAnyH_take (i := 4) (v := .bool false) rfl (by kernel_rfl) (by kernel_rfl) (by kernel_rfl) (fun _ _ _ h => h) (Or.inl ⟨by rfl, fun w' _ => by go_simp⟩) hH1 ?_
  refine wpAnyH_take (i := 5) (v := .pointer none) rfl (by kernel_rfl) (by kernel_rfl) (by kernel_rfl) (fun _ _ _ h => h) (Or.inl ⟨by rfl, fun w' _ => by go_simp⟩) hH1 ?_
  refine wpAnyH_ready (rs := [6]) (by kernel_rfl) (by simp) ?_
  refine AllReadyH.cons rfl (fun K hK => ?_) AllReadyH.nil
  go_simp
  go_at_call 25
  refine (len_nil _).mono ?_
  rintro e w6 ⟨rfl, rfl⟩
  go_wp2_with fail
  refine hK.out _ _ (hH1) (fun hH2 => ?_)
  clear hK K
  refine wpAnyH_take (i := 7) (v := .bool false) rfl (by kernel_rfl) (by kernel_rfl) (by kernel_rfl) (fun _ _ _ h => h) (Or.inl ⟨by rfl, fun w' _ => by go_simp⟩) hH2 ?_
  refine wpAnyH_take (i := 8) (v := .bool false) rfl (by kernel_rfl) (by kernel_rfl) (by kernel_rfl) (fun _ _ _ h => h) (Or.inl ⟨by rfl, fun w' _ => by go_simp⟩) hH2 ?_
  refine wpAnyH_take (i := 9) (v := .bool false) rfl (by kernel_rfl) (by kernel_rfl) (by kernel_rfl) (fun _ _ _ h => h) (Or.inl ⟨by rfl, fun w' _ => by go_simp⟩) hH2 ?_
  refine wpAnyH_take (i := 10) (v := .pointer (some ⟨w.heap.size, 0, none⟩)) rfl (by kernel_rfl) (by kernel_rfl) (by kernel_rfl) (fun _ _ _ h => h) (Or.inl ⟨by rfl, fun w' _ => by go_simp⟩) hH2 ?_
  refine wpAnyH_take (i := 12) (v := .agg (U8s (sha [])).toArray) rfl (by kernel_rfl) (by kernel_rfl) (by kernel_rfl) (fun _ _ _ h => h) (yieldsIf_load_mid (by rfl) _ _ rfl _ _ rfl (U8s (sha [])) _ (fun _ h => h.1.2) Tryd.underlying26 rfl hszN.out) hH2 ?_
  refine wpAnyH_ready (rs := [11]) (by kernel_rfl) (by simp) ?_
  refine AllReadyH.cons rfl (fun K hK => ?_) AllReadyH.nil
  go_simp
  go_at_call 24
  refine (sum_zero_ w.heap.size [] _ (Lib.hid rfl) hH2.2.1 (Lib.hid hH2.2.2.1)).mono ?_
  rintro e w11 ⟨rfl, hd11⟩
  go_wp2_with fail
  refine hK.out _ _ (NilS.on hH2 hd11) (fun hH3 => ?_)
  clear hK K
  refine wpAnyH_take (i := 13) (v := .bool false) rfl (by kernel_rfl) (by kernel_rfl) (by kernel_rfl) (fun _ _ _ h => h) (Or.inl ⟨by rfl, fun w' _ => by go_simp⟩) hH3 ?_
  refine wpAnyH_take (i := 14) (v := .bool false) rfl (by kernel_rfl) (by kernel_rfl) (by kernel_rfl) (fun _ _ _ h => h) (Or.inl ⟨by rfl, fun w' _ => by go_simp⟩) hH3 ?_
  refine wpAnyH_take (i := 15) (v := .bool false) rfl (by kernel_rfl) (by kernel_rfl) (by kernel_rfl) (fun _ _ _ h => h) (Or.inl ⟨by rfl, fun w' _ => by go_simp⟩) hH3 ?_
  refine wpAnyH_take (i := 16) (v := .agg (U8s (sha [])).toArray) rfl (by kernel_rfl) (by kernel_rfl) (by kernel_rfl) (fun _ _ _ h => h) (yieldsIf_load_mid (by rfl) _ _ rfl _ _ rfl (U8s (sha [])) _ (fun _ h => h.1.2) Tryd.underlying26 rfl hszN.out) hH3 ?_
  refine wpAnyH_ready (rs := [17]) (by kernel_rfl) (by simp) ?_
  refine AllReadyH.cons rfl (fun K hK => ?_) AllReadyH.nil
  go_simp
  refine hK.out _ _ (NilS.on hH3 (BW_alloc (BW_refl _) _)) (fun hH4 => ?_)
  clear hK K
  refine wpAnyH_ready (rs := [18]) (by kernel_rfl) (by simp) ?_
  refine AllReadyH.cons rfl (fun K hK => ?_) AllReadyH.nil
  go_simp
  go_at_call 17
  refine (hof_any _ [⟨#[]⟩] _ (Lib.hid (strs1 _ _)) (Lib.hid hH4.2.2.1) (by decide) (by decide)).mono ?_
  rintro e w18 ⟨rfl, hd18⟩
  go_wp2_with fail
  refine hK.out _ _ (NilS.on hH4 hd18) (fun hH5 => ?_)
  clear hK K
  rw [show allB [⟨#[]⟩] = [] from rfl]
  refine wpAnyH_take (i := 19) (v := .bool false) rfl (by kernel_rfl) (by kernel_rfl) (by kernel_rfl) (fun _ _ _ h => h) (Or.inl ⟨by rfl, fun w' _ => by go_simp⟩) hH5 ?_
  refine wpAnyH_take (i := 20) (v := .bool false) rfl (by kernel_rfl) (by kernel_rfl) (by kernel_rfl) (fun _ _ _ h => h) (Or.inl ⟨by rfl, fun w' _ => by go_simp⟩) hH5 ?_
  refine wpAnyH_done (by kernel_rfl) ?_ _
  clear heqN
  have hln := bysN_len t
  have hsv2 : shaV (bysN t) = .agg (U8s (sha (bysN t))).toArray := rfl
  have heqT := eq_hash (sha (bysN t)) (sha (bysN t)) (sha_IsH _) (sha_IsH _)
  rw [decide_eq_true rfl] at heqT
  go_wp2_with fail
  refine (write_zero w.heap.size t _ hH5.2.1 (Lib.hid hH5.2.2.1) (by omega) h1w).mono ?_
  rintro e w20 ⟨rfl, hst, hg⟩
  have hT20 := hH5.2.2.1.grown hg h1w
  have hb20 := Below.grownA hH5.2.2.2 hg (Nat.le_refl _)
  go_wp2_with fail
  refine (awake02_any _ (Lib.hid hT20)).mono ?_
  rintro e w21 ⟨rfl, hb21⟩
  go_wp2_with fail
  refine (sum_any w.heap.size (bysN t) _ (Lib.hid (hst.on hb21)) (Lib.hid (hT20.on hb21)) (by rw [bysN_len]; omega)).mono ?_
  rintro e w22 ⟨rfl, hb22⟩
  have hT22 := (hT20.on hb21).on hb22
  have hst22 := (hst.on hb21).on hb22
  have hbb22 := BW_on (BW_on hb20 hb21) hb22
  go_wp2_with fail
  refine (hof_any _ [t] _ (Lib.hid (strs1 _ _)) (Lib.hid (hT22.on (BW_alloc (BW_refl _) _))) (by show (bysN t ++ []).length ≤ _; rw [List.append_nil, bysN_len]; omega) (by show 1 ≤ 9223372036854775807; decide)).mono ?_
  rintro e w23 ⟨rfl, hb23⟩
  rw [show allB [t] = bysN t from List.append_nil _]
  have hst23 := (hst22.on (BW_alloc (BW_refl _) (.cells #[.string t] 9))).on hb23
  have hbb23 := BW_on (BW_alloc hbb22 (.cells #[.string t] 9)) hb23
  go_wp2_with fail
  refine (len_any w.heap.size (bysN t) _ hst23).mono ?_
  rintro e w24 ⟨rfl, rfl⟩
  go_wp2_with fail
  go_ret
  exact ⟨rfl, hbb23⟩
end Go.Proofs.YtidceockbjeaoaaDoor

/- The walk of the law SealNil. -/
import Derived.Test.YtidceockbjeaoaaDoorSX
import Derived.Deep.DeepCutAuto
namespace Go.Proofs.YtidceockbjeaoaaDoor
open Go.RowKit
attribute [local go_sem ↓] Go.wp_at_zero Go.wp_at_succ
theorem kb_nil : kb (bysN ⟨#[]⟩) = z64 := rfl
set_option maxHeartbeats 4000000 in
set_option maxRecDepth 100000 in
theorem l3nil_any (s : ByteArray) (w : World) (ht : Hid (Tabs w)) :
    Calls Tryd.prog 13 #[.string s] w fun e w' => e = .returned (.bool true) ∧ Below w.heap.size w w' := by
  have hz_s1 := shN_size s 60
  have hsh_s1 := Lib.hid (short03_any s 60)
  generalize shN s 60 = s1 at *
  have hS := SX.nil ht.out
  have kz := blk1 w 66 (U8s z64).toArray
  replace hS := hS.on (BW_alloc (BW_refl w) (.cells (U8s z64).toArray 66))
  clear ht
  go_enter Tryd.func13, Tryd.ntmps13
  go_upto_region 3 with (fail)
  change Code.wp _ _ _ _ (w.alloc (.cells (U8s z64).toArray 66))
  generalize w.alloc (.cells (U8s z64).toArray 66) = W at *
  replace hS := SX.with hS (q := some ⟨w.heap.size, 0, none⟩) (C := z64) (.inr ⟨_, rfl, kz⟩)
  generalize hgz : w.heap.size = gz at *
  have Hgz := Lib.hid hgz
  clear hgz kz
  go_wp2_with fail
  refine (hsh_s1.out _).mono ?_
  rintro e w' ⟨rfl, rfl⟩
  go_wp2_with fail
  refine (rof_any ⟨#[]⟩ s1 _ (by decide) (by omega)).mono ?_
  rw [kb_nil]
  rintro e w2 ⟨rfl, hb2⟩
  replace hS := hS.on hb2
  have hA := mac_IsH z64 (bysN s1)
  have hal := one_str s1
  have hse := Lib.hid (fun p v w (hp : Hid (SlrAt p z64 w)) hv ht => sseal_any p z64 v [s1] w z64_len (Lib.hid z64_lt) hp hv ht (by rw [hal, bysN_len]; omega) (by show 1 ≤ 9223372036854775807; decide))
  have hck := Lib.hid (fun p v w M hM hp hv ht => scheck_any p z64 M v [s1] w z64_len (Lib.hid z64_lt) hM hp hv ht (by rw [hal, bysN_len]; omega) (by show 1 ≤ 9223372036854775807; decide))
  rw [hal] at hse hck
  generalize mac z64 (bysN s1) = A at *
  clear hb2 hal
  have hth := Lib.hid (hash_there w2 hA)
  have hsz := Lib.hid (hash_sz hA)
  have hone := Lib.hid (hash_one A)
  replace hS := SX.put hS hA
  go_upto_region 5 with (refine wpList_store_mid rfl 26 _ _ rfl w2.heap.size 0 (U8s A).toArray rfl rfl hth.out hsz.out hone.out ?_)
  change Code.wp _ _ _ _ ((w2.alloc (.cells (U8s z32).toArray 26)).setCells w2.heap.size 0 (U8s A))
  clear hth hsz hone
  generalize (w2.alloc (.cells (U8s z32).toArray 26)).setCells w2.heap.size 0 (U8s A) = V at *
  generalize w2.heap.size = ga at *
  have hszA := Lib.hid (hash_szl hA)
  have hq1 := hash_eq_rfl hA
  refine wp_region_held_drew (S := SX w [(ga, A)] (some ⟨gz, 0, none⟩) z64 (.slice none 0 0) []) (by kernel_rfl) hS.drew (fun hH0 => ?_)
  refine wpAnyH_ready (rs := [0]) (by kernel_rfl) (by simp) ?_
  refine AllReadyH.cons rfl (fun K hK => ?_) AllReadyH.nil
  go_simp
  go_at_call 29
  refine (awake03_any _ (SX.tabs hH0)).mono ?_
  rintro e w0 ⟨rfl, hd0⟩
  go_wp2_with fail
  refine hK.out _ _ (SX.on hH0 hd0) (fun hH1 => ?_)
  clear hK K
  refine wpAnyH_take (i := 1) (v := .bool true) rfl (by kernel_rfl) (by kernel_rfl) (by kernel_rfl) (fun _ _ _ h => h) (yk_move (by kernel_rfl) _ rfl _ (by kernel_rfl)) hH1 ?_
  refine wpAnyH_take (i := 2) (v := .pointer none) rfl (by kernel_rfl) (by kernel_rfl) (by kernel_rfl) (fun _ _ _ h => h) (yk_move (by kernel_rfl) _ rfl _ (by kernel_rfl)) hH1 ?_
  refine wpAnyH_take (i := 3) (v := .string s1) rfl (by kernel_rfl) (by kernel_rfl) (by kernel_rfl) (fun _ _ _ h => h) (yk_move (by kernel_rfl) _ rfl _ (by kernel_rfl)) hH1 ?_
  refine wpAnyH_take (i := 6) (v := .agg (U8s A).toArray) rfl (by kernel_rfl) (by kernel_rfl) (by kernel_rfl) (fun _ _ _ h => h) (yieldsIf_load_mid (by kernel_rfl) _ _ rfl ga 0 (by kernel_rfl) (U8s A) _ (fun _ h => SX.at h (.head _)) Tryd.underlying26 rfl hszA.out) hH1 ?_
  refine wpAnyH_ready (rs := [4]) (by kernel_rfl) (by simp) ?_
  refine AllReadyH.cons rfl (fun K hK => ?_) AllReadyH.nil
  go_simp
  refine hK.out _ _ (SX.on hH1 (BW_alloc (BW_refl _) _)) (fun hH2 => ?_)
  clear hK K
  refine wpAnyH_ready (rs := [5]) (by kernel_rfl) (by simp) ?_
  refine AllReadyH.cons rfl (fun K hK => ?_) AllReadyH.nil
  go_simp
  go_at_call 35
  refine (hse.out none _ _ (Lib.hid (.inl ⟨rfl, rfl⟩)) (Lib.hid (strs1 _ _)) (SX.tabs hH2)).mono ?_
  rintro e w5 ⟨rfl, hd5⟩
  go_wp2_with fail
  refine hK.out _ _ (SX.on hH2 hd5) (fun hH3 => ?_)
  clear hK K
  refine wpAnyH_take (i := 7) (v := .bool true) rfl (by kernel_rfl) (by kernel_rfl) (by kernel_rfl) (fun _ _ _ h => h) (yk_bin (by kernel_rfl) _ _ _ _ _ rfl (.agg (U8s A).toArray) (.agg (U8s A).toArray) (by kernel_rfl) (by kernel_rfl) _ (fun w' hw' => hq1 _ _ w')) hH3 ?_
  refine wpAnyH_take (i := 8) (v := .bool true) rfl (by kernel_rfl) (by kernel_rfl) (by kernel_rfl) (fun _ _ _ h => h) (yk_pick (by kernel_rfl) _ _ _ rfl true (by kernel_rfl) _ (by kernel_rfl)) hH3 ?_
  refine wpAnyH_take (i := 9) (v := .bool true) rfl (by kernel_rfl) (by kernel_rfl) (by kernel_rfl) (fun _ _ _ h => h) (yk_move (by kernel_rfl) _ rfl _ (by kernel_rfl)) hH3 ?_
  refine wpAnyH_take (i := 10) (v := .pointer (some ⟨gz, 0, none⟩)) rfl (by kernel_rfl) (by kernel_rfl) (by kernel_rfl) (fun _ _ _ h => h) (yk_move (by kernel_rfl) _ rfl _ (by kernel_rfl)) hH3 ?_
  refine wpAnyH_take (i := 11) (v := .string s1) rfl (by kernel_rfl) (by kernel_rfl) (by kernel_rfl) (fun _ _ _ h => h) (yk_move (by kernel_rfl) _ rfl _ (by kernel_rfl)) hH3 ?_
  refine wpAnyH_take (i := 14) (v := .agg (U8s A).toArray) rfl (by kernel_rfl) (by kernel_rfl) (by kernel_rfl) (fun _ _ _ h => h) (yieldsIf_load_mid (by kernel_rfl) _ _ rfl ga 0 (by kernel_rfl) (U8s A) _ (fun _ h => SX.at h (.head _)) Tryd.underlying26 rfl hszA.out) hH3 ?_
  refine wpAnyH_ready (rs := [12]) (by kernel_rfl) (by simp) ?_
  refine AllReadyH.cons rfl (fun K hK => ?_) AllReadyH.nil
  go_simp
  refine hK.out _ _ (SX.on hH3 (BW_alloc (BW_refl _) _)) (fun hH4 => ?_)
  clear hK K
  refine wpAnyH_ready (rs := [13]) (by kernel_rfl) (by simp) ?_
  refine AllReadyH.cons rfl (fun K hK => ?_) AllReadyH.nil
  go_simp
  go_at_call 35
  refine (hse.out (some ⟨gz, 0, none⟩) _ _ (SX.slr hH4) (Lib.hid (strs1 _ _)) (SX.tabs hH4)).mono ?_
  rintro e w13 ⟨rfl, hd13⟩
  go_wp2_with fail
  refine hK.out _ _ (SX.on hH4 hd13) (fun hH5 => ?_)
  clear hK K
  refine wpAnyH_take (i := 15) (v := .bool true) rfl (by kernel_rfl) (by kernel_rfl) (by kernel_rfl) (fun _ _ _ h => h) (yk_bin (by kernel_rfl) _ _ _ _ _ rfl (.agg (U8s A).toArray) (.agg (U8s A).toArray) (by kernel_rfl) (by kernel_rfl) _ (fun w' hw' => hq1 _ _ w')) hH5 ?_
  refine wpAnyH_take (i := 16) (v := .bool true) rfl (by kernel_rfl) (by kernel_rfl) (by kernel_rfl) (fun _ _ _ h => h) (yk_pick (by kernel_rfl) _ _ _ rfl true (by kernel_rfl) _ (by kernel_rfl)) hH5 ?_
  refine wpAnyH_take (i := 17) (v := .bool true) rfl (by kernel_rfl) (by kernel_rfl) (by kernel_rfl) (fun _ _ _ h => h) (yk_move (by kernel_rfl) _ rfl _ (by kernel_rfl)) hH5 ?_
  refine wpAnyH_take (i := 18) (v := .pointer none) rfl (by kernel_rfl) (by kernel_rfl) (by kernel_rfl) (fun _ _ _ h => h) (yk_move (by kernel_rfl) _ rfl _ (by kernel_rfl)) hH5 ?_
  refine wpAnyH_take (i := 19) (v := .agg (U8s A).toArray) rfl (by kernel_rfl) (by kernel_rfl) (by kernel_rfl) (fun _ _ _ h => h) (yieldsIf_load_mid (by kernel_rfl) _ _ rfl ga 0 (by kernel_rfl) (U8s A) _ (fun _ h => SX.at h (.head _)) Tryd.underlying26 rfl hszA.out) hH5 ?_
  refine wpAnyH_take (i := 20) (v := .string s1) rfl (by kernel_rfl) (by kernel_rfl) (by kernel_rfl) (fun _ _ _ h => h) (yk_move (by kernel_rfl) _ rfl _ (by kernel_rfl)) hH5 ?_
  refine wpAnyH_ready (rs := [21]) (by kernel_rfl) (by simp) ?_
  refine AllReadyH.cons rfl (fun K hK => ?_) AllReadyH.nil
  go_simp
  refine hK.out _ _ (SX.on hH5 (BW_alloc (BW_refl _) _)) (fun hH6 => ?_)
  clear hK K
  refine wpAnyH_ready (rs := [22]) (by kernel_rfl) (by simp) ?_
  refine AllReadyH.cons rfl (fun K hK => ?_) AllReadyH.nil
  go_simp
  go_at_call 36
  refine (hck.out none _ _ A hA (Lib.hid (.inl ⟨rfl, rfl⟩)) (Lib.hid (strs1 _ _)) (SX.tabs hH6)).mono ?_
  rintro e w22 ⟨rfl, hd22⟩
  rw [show decide (A = A) = true from decide_eq_true rfl]
  go_wp2_with fail
  refine hK.out _ _ (SX.on hH6 hd22) (fun hH7 => ?_)
  clear hK K
  refine wpAnyH_take (i := 23) (v := .bool true) rfl (by kernel_rfl) (by kernel_rfl) (by kernel_rfl) (fun _ _ _ h => h) (yk_pick (by kernel_rfl) _ _ _ rfl true (by kernel_rfl) _ (by kernel_rfl)) hH7 ?_
  refine wpAnyH_take (i := 24) (v := .bool true) rfl (by kernel_rfl) (by kernel_rfl) (by kernel_rfl) (fun _ _ _ h => h) (yk_move (by kernel_rfl) _ rfl _ (by kernel_rfl)) hH7 ?_
  refine wpAnyH_take (i := 25) (v := .pointer (some ⟨gz, 0, none⟩)) rfl (by kernel_rfl) (by kernel_rfl) (by kernel_rfl) (fun _ _ _ h => h) (yk_move (by kernel_rfl) _ rfl _ (by kernel_rfl)) hH7 ?_
  refine wpAnyH_take (i := 26) (v := .agg (U8s A).toArray) rfl (by kernel_rfl) (by kernel_rfl) (by kernel_rfl) (fun _ _ _ h => h) (yieldsIf_load_mid (by kernel_rfl) _ _ rfl ga 0 (by kernel_rfl) (U8s A) _ (fun _ h => SX.at h (.head _)) Tryd.underlying26 rfl hszA.out) hH7 ?_
  refine wpAnyH_take (i := 27) (v := .string s1) rfl (by kernel_rfl) (by kernel_rfl) (by kernel_rfl) (fun _ _ _ h => h) (yk_move (by kernel_rfl) _ rfl _ (by kernel_rfl)) hH7 ?_
  refine wpAnyH_ready (rs := [28]) (by kernel_rfl) (by simp) ?_
  refine AllReadyH.cons rfl (fun K hK => ?_) AllReadyH.nil
  go_simp
  refine hK.out _ _ (SX.on hH7 (BW_alloc (BW_refl _) _)) (fun hH8 => ?_)
  clear hK K
  refine wpAnyH_ready (rs := [29]) (by kernel_rfl) (by simp) ?_
  refine AllReadyH.cons rfl (fun K hK => ?_) AllReadyH.nil
  go_simp
  go_at_call 36
  refine (hck.out (some ⟨gz, 0, none⟩) _ _ A hA (SX.slr hH8) (Lib.hid (strs1 _ _)) (SX.tabs hH8)).mono ?_
  rintro e w29 ⟨rfl, hd29⟩
  rw [show decide (A = A) = true from decide_eq_true rfl]
  go_wp2_with fail
  refine hK.out _ _ (SX.on hH8 hd29) (fun hH9 => ?_)
  clear hK K
  refine wpAnyH_take (i := 30) (v := .bool true) rfl (by kernel_rfl) (by kernel_rfl) (by kernel_rfl) (fun _ _ _ h => h) (yk_pick (by kernel_rfl) _ _ _ rfl true (by kernel_rfl) _ (by kernel_rfl)) hH9 ?_
  refine wpAnyH_take (i := 31) (v := .bool true) rfl (by kernel_rfl) (by kernel_rfl) (by kernel_rfl) (fun _ _ _ h => h) (yk_assign (by kernel_rfl) _ rfl _ (by kernel_rfl)) hH9 ?_
  refine wpAnyH_done (by kernel_rfl) ?_ _
  have hbf := SX.below hH9
  go_wp2_with fail
  go_ret
  exact ⟨rfl, by rw [Hgz.out]; rw [Hgz.out] at hbf; exact hbf⟩
end Go.Proofs.YtidceockbjeaoaaDoor

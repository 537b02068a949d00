/- The walk of the law SealApart. -/
import Derived.Test.YtidceockbjeaoaaDoorSX
import Derived.Deep.DeepCutAuto
namespace Go.Proofs.YtidceockbjeaoaaDoor
open Go.RowKit
attribute [local go_sem ↓] Go.wp_at_zero Go.wp_at_succ
set_option maxHeartbeats 4000000 in
set_option maxRecDepth 100000 in
theorem l3apart_any (key a b : ByteArray) (w : World) (ht : Hid (Tabs w)) :
    Calls Tryd.prog 14 #[.string key, .string a, .string b] w fun e w' => e = .returned (.bool true) ∧ Below w.heap.size w w' := by
  have hz_k1 := shN_size key 100
  have hsh_k1 := Lib.hid (short03_any key 100)
  generalize shN key 100 = k1 at *
  have hz_a1 := shN_size a 60
  have hsh_a1 := Lib.hid (short03_any a 60)
  generalize shN a 60 = a1 at *
  have hz_b1 := shN_size b 60
  have hsh_b1 := Lib.hid (short03_any b 60)
  generalize shN b 60 = b1 at *
  have hS := SX.nil ht.out
  clear ht
  have hala := one_str a1
  have halb := one_str b1
  have hofa := Lib.hid (fun w ht => sof_any k1 a1 w (by omega) (by omega) ht)
  have hofb := Lib.hid (fun w ht => sof_any k1 b1 w (by omega) (by omega) ht)
  have hroa := Lib.hid (fun w => rof_any k1 a1 w (by omega) (by omega))
  have hrob := Lib.hid (fun w => rof_any k1 b1 w (by omega) (by omega))
  have hria := Lib.hid (fun M w hM ht => sright_any k1 a1 M w (by omega) (by omega) hM ht)
  have hnw := Lib.hid (fun w ht => snew_any k1 w (by omega) ht)
  have hBl := kb_len (bysN k1)
  have hBt := Lib.hid (kb_lt (bysN_lt k1))
  generalize kb (bysN k1) = B at *
  have hsea := Lib.hid (fun p v w (hp : Hid (SlrAt p B w)) hv ht => sseal_any p B v [a1] w hBl hBt hp hv ht (by rw [hala, bysN_len]; omega) (by show 1 ≤ 9223372036854775807; decide))
  have hseb := Lib.hid (fun p v w (hp : Hid (SlrAt p B w)) hv ht => sseal_any p B v [b1] w hBl hBt hp hv ht (by rw [halb, bysN_len]; omega) (by show 1 ≤ 9223372036854775807; decide))
  have hckb := Lib.hid (fun p v w M hM (hp : Hid (SlrAt p B w)) hv ht => scheck_any p B M v [b1] w hBl hBt hM hp hv ht (by rw [halb, bysN_len]; omega) (by show 1 ≤ 9223372036854775807; decide))
  rw [hala] at hsea
  rw [halb] at hseb hckb
  have hX := mac_IsH B (bysN a1)
  have hY := mac_IsH B (bysN b1)
  generalize mac B (bysN a1) = X at *
  generalize mac B (bysN b1) = Y at *
  clear hala halb
  go_enter Tryd.func14, Tryd.ntmps14
  go_wp2_with fail
  refine (awake03_any _ hS.tabs).mono ?_
  rintro e w1 ⟨rfl, hb1⟩
  replace hS := hS.on hb1
  clear hb1
  go_wp2_with fail
  refine (hsh_k1.out _).mono ?_
  rintro e w' ⟨rfl, rfl⟩
  go_wp2_with fail
  refine (hsh_a1.out _).mono ?_
  rintro e w' ⟨rfl, rfl⟩
  go_wp2_with fail
  refine (hsh_b1.out _).mono ?_
  rintro e w' ⟨rfl, rfl⟩
  go_wp2_with fail
  refine (hnw.out _ hS.tabs).mono ?_
  rintro e w2 ⟨g, rfl, _, kg, hb2⟩
  replace hS := SX.with (hS.on hb2) (q := some ⟨g, 0, none⟩) (C := B) (.inr ⟨_, rfl, kg⟩)
  clear hb2 kg hnw
  go_wp2_with fail
  refine (hsea.out _ _ _ (SX.slr (hS.on (BW_alloc (BW_refl _) _))) (Lib.hid (strs1 _ _)) (SX.tabs (hS.on (BW_alloc (BW_refl _) _)))).mono ?_
  rintro e w3 ⟨rfl, hb3⟩
  replace hS := (hS.on (BW_alloc (BW_refl _) _)).on hb3
  clear hb3
  have hth := Lib.hid (hash_there w3 hX)
  have hsz := Lib.hid (hash_sz hX)
  have hone := Lib.hid (hash_one X)
  replace hS := SX.put hS hX
  go_upto_region 9 with (refine wpList_store_mid rfl 26 _ _ rfl w3.heap.size 0 (U8s X).toArray rfl rfl hth.out hsz.out hone.out ?_)
  change Code.wp _ _ _ _ ((w3.alloc (.cells (U8s z32).toArray 26)).setCells w3.heap.size 0 (U8s X))
  clear hth hsz hone
  generalize (w3.alloc (.cells (U8s z32).toArray 26)).setCells w3.heap.size 0 (U8s X) = V at *
  generalize w3.heap.size = gx at *
  go_wp2_with fail
  refine (hseb.out _ _ _ (SX.slr (hS.on (BW_alloc (BW_refl _) _))) (Lib.hid (strs1 _ _)) (SX.tabs (hS.on (BW_alloc (BW_refl _) _)))).mono ?_
  rintro e w4 ⟨rfl, hb4⟩
  replace hS := (hS.on (BW_alloc (BW_refl _) _)).on hb4
  clear hb4
  have hth := Lib.hid (hash_there w4 hY)
  have hsz := Lib.hid (hash_sz hY)
  have hone := Lib.hid (hash_one Y)
  replace hS := SX.put hS hY
  go_upto_region 10 with (refine wpList_store_mid rfl 26 _ _ rfl w4.heap.size 0 (U8s Y).toArray rfl rfl hth.out hsz.out hone.out ?_)
  change Code.wp _ _ _ _ ((w4.alloc (.cells (U8s z32).toArray 26)).setCells w4.heap.size 0 (U8s Y))
  clear hth hsz hone
  generalize (w4.alloc (.cells (U8s z32).toArray 26)).setCells w4.heap.size 0 (U8s Y) = V2 at *
  generalize w4.heap.size = gy at *
  go_wp2_with fail
  refine (hroa.out _).mono ?_
  rintro e w5 ⟨rfl, hb5⟩
  replace hS := hS.on hb5
  clear hb5
  go_wp2_with fail
  refine (hrob.out _).mono ?_
  rintro e w6 ⟨rfl, hb6⟩
  replace hS := hS.on hb6
  clear hb6 hroa hrob
  have hq := eq_hash X Y hX hY
  go_wp2_with fail
  clear hq
  have hszX := Lib.hid (hash_szl hX)
  have hszY := Lib.hid (hash_szl hY)
  have hqx := hash_eq_rfl hX
  have hqy := hash_eq_rfl hY
  have hq3 : Hid (decide (Y = X) = decide (X = Y)) := Lib.hid (by simp only [eq_comm])
  refine wp_region_held_drew (S := SX w [(gy, Y), (gx, X)] (some ⟨g, 0, none⟩) B (.slice none 0 0) []) (by kernel_rfl) hS.drew (fun hH0 => ?_)
  refine wpAnyH_take (i := 0) (v := .bool true) rfl (by kernel_rfl) (by kernel_rfl) (by kernel_rfl) (fun _ _ _ h => h) (yk_move (by kernel_rfl) _ rfl _ (by kernel_rfl)) hH0 ?_
  refine wpAnyH_take (i := 1) (v := .bool true) rfl (by kernel_rfl) (by kernel_rfl) (by kernel_rfl) (fun _ _ _ h => h) (yk_move (by kernel_rfl) _ rfl _ (by kernel_rfl)) hH0 ?_
  refine wpAnyH_take (i := 2) (v := .agg (U8s X).toArray) rfl (by kernel_rfl) (by kernel_rfl) (by kernel_rfl) (fun _ _ _ h => h) (yieldsIf_load_mid (by kernel_rfl) _ _ rfl gx 0 (by kernel_rfl) (U8s X) _ (fun _ h => SX.at h (.tail _ (.head _))) Tryd.underlying26 rfl hszX.out) hH0 ?_
  refine wpAnyH_take (i := 3) (v := .string k1) rfl (by kernel_rfl) (by kernel_rfl) (by kernel_rfl) (fun _ _ _ h => h) (yk_move (by kernel_rfl) _ rfl _ (by kernel_rfl)) hH0 ?_
  refine wpAnyH_take (i := 4) (v := .string a1) rfl (by kernel_rfl) (by kernel_rfl) (by kernel_rfl) (fun _ _ _ h => h) (yk_move (by kernel_rfl) _ rfl _ (by kernel_rfl)) hH0 ?_
  refine wpAnyH_ready (rs := [5]) (by kernel_rfl) (by simp) ?_
  refine AllReadyH.cons rfl (fun K hK => ?_) AllReadyH.nil
  go_simp
  go_at_call 32
  refine (hofa.out _ (SX.tabs hH0)).mono ?_
  rintro e w5 ⟨rfl, hd1⟩
  go_wp2_with fail
  refine hK.out _ _ (SX.on hH0 hd1) (fun hH1 => ?_)
  clear hK K
  refine wpAnyH_take (i := 6) (v := .bool true) rfl (by kernel_rfl) (by kernel_rfl) (by kernel_rfl) (fun _ _ _ h => h) (yk_bin (by kernel_rfl) _ _ _ _ _ rfl (.agg (U8s X).toArray) (.agg (U8s X).toArray) (by kernel_rfl) (by kernel_rfl) _ (fun w' hw' => hqx _ _ w')) hH1 ?_
  refine wpAnyH_take (i := 7) (v := .bool true) rfl (by kernel_rfl) (by kernel_rfl) (by kernel_rfl) (fun _ _ _ h => h) (yk_pick (by kernel_rfl) _ _ _ rfl true (by kernel_rfl) _ (by kernel_rfl)) hH1 ?_
  refine wpAnyH_take (i := 8) (v := .bool true) rfl (by kernel_rfl) (by kernel_rfl) (by kernel_rfl) (fun _ _ _ h => h) (yk_move (by kernel_rfl) _ rfl _ (by kernel_rfl)) hH1 ?_
  refine wpAnyH_take (i := 9) (v := .agg (U8s Y).toArray) rfl (by kernel_rfl) (by kernel_rfl) (by kernel_rfl) (fun _ _ _ h => h) (yieldsIf_load_mid (by kernel_rfl) _ _ rfl gy 0 (by kernel_rfl) (U8s Y) _ (fun _ h => SX.at h (.head _)) Tryd.underlying26 rfl hszY.out) hH1 ?_
  refine wpAnyH_take (i := 10) (v := .string k1) rfl (by kernel_rfl) (by kernel_rfl) (by kernel_rfl) (fun _ _ _ h => h) (yk_move (by kernel_rfl) _ rfl _ (by kernel_rfl)) hH1 ?_
  refine wpAnyH_take (i := 11) (v := .string b1) rfl (by kernel_rfl) (by kernel_rfl) (by kernel_rfl) (fun _ _ _ h => h) (yk_move (by kernel_rfl) _ rfl _ (by kernel_rfl)) hH1 ?_
  refine wpAnyH_ready (rs := [12]) (by kernel_rfl) (by simp) ?_
  refine AllReadyH.cons rfl (fun K hK => ?_) AllReadyH.nil
  go_simp
  go_at_call 32
  refine (hofb.out _ (SX.tabs hH1)).mono ?_
  rintro e w12 ⟨rfl, hd2⟩
  go_wp2_with fail
  refine hK.out _ _ (SX.on hH1 hd2) (fun hH2 => ?_)
  clear hK K
  refine wpAnyH_take (i := 13) (v := .bool true) rfl (by kernel_rfl) (by kernel_rfl) (by kernel_rfl) (fun _ _ _ h => h) (yk_bin (by kernel_rfl) _ _ _ _ _ rfl (.agg (U8s Y).toArray) (.agg (U8s Y).toArray) (by kernel_rfl) (by kernel_rfl) _ (fun w' hw' => hqy _ _ w')) hH2 ?_
  refine wpAnyH_take (i := 14) (v := .bool true) rfl (by kernel_rfl) (by kernel_rfl) (by kernel_rfl) (fun _ _ _ h => h) (yk_pick (by kernel_rfl) _ _ _ rfl true (by kernel_rfl) _ (by kernel_rfl)) hH2 ?_
  refine wpAnyH_take (i := 15) (v := .bool true) rfl (by kernel_rfl) (by kernel_rfl) (by kernel_rfl) (fun _ _ _ h => h) (yk_move (by kernel_rfl) _ rfl _ (by kernel_rfl)) hH2 ?_
  refine wpAnyH_take (i := 16) (v := .pointer (some ⟨g, 0, none⟩)) rfl (by kernel_rfl) (by kernel_rfl) (by kernel_rfl) (fun _ _ _ h => h) (yk_move (by kernel_rfl) _ rfl _ (by kernel_rfl)) hH2 ?_
  refine wpAnyH_take (i := 17) (v := .agg (U8s X).toArray) rfl (by kernel_rfl) (by kernel_rfl) (by kernel_rfl) (fun _ _ _ h => h) (yieldsIf_load_mid (by kernel_rfl) _ _ rfl gx 0 (by kernel_rfl) (U8s X) _ (fun _ h => SX.at h (.tail _ (.head _))) Tryd.underlying26 rfl hszX.out) hH2 ?_
  refine wpAnyH_take (i := 18) (v := .string b1) rfl (by kernel_rfl) (by kernel_rfl) (by kernel_rfl) (fun _ _ _ h => h) (yk_move (by kernel_rfl) _ rfl _ (by kernel_rfl)) hH2 ?_
  refine wpAnyH_take (i := 21) (v := .bool (decide (X = Y))) rfl (by kernel_rfl) (by kernel_rfl) (by kernel_rfl) (fun _ _ _ h => h) (yk_move (by kernel_rfl) _ rfl _ (by kernel_rfl)) hH2 ?_
  refine wpAnyH_ready (rs := [19]) (by kernel_rfl) (by simp) ?_
  refine AllReadyH.cons rfl (fun K hK => ?_) AllReadyH.nil
  go_simp
  refine hK.out _ _ (SX.on hH2 (BW_alloc (BW_refl _) _)) (fun hH3 => ?_)
  clear hK K
  refine wpAnyH_ready (rs := [20]) (by kernel_rfl) (by simp) ?_
  refine AllReadyH.cons rfl (fun K hK => ?_) AllReadyH.nil
  go_simp
  go_at_call 36
  refine (hckb.out _ _ _ X hX (SX.slr hH3) (Lib.hid (strs1 _ _)) (SX.tabs hH3)).mono ?_
  rintro e w20 ⟨rfl, hd3⟩
  go_wp2_with fail
  refine hK.out _ _ (SX.on hH3 hd3) (fun hH4 => ?_)
  clear hK K
  refine wpAnyH_take (i := 22) (v := .bool true) rfl (by kernel_rfl) (by kernel_rfl) (by kernel_rfl) (fun _ _ _ h => h) (yk_bin (by kernel_rfl) _ _ _ _ _ rfl (.bool (decide (Y = X))) (.bool (decide (X = Y))) (by kernel_rfl) (by kernel_rfl) _ (fun w' hw' => bool_eq _ _ _ _ hq3.out w')) hH4 ?_
  refine wpAnyH_take (i := 23) (v := .bool true) rfl (by kernel_rfl) (by kernel_rfl) (by kernel_rfl) (fun _ _ _ h => h) (yk_pick (by kernel_rfl) _ _ _ rfl true (by kernel_rfl) _ (by kernel_rfl)) hH4 ?_
  refine wpAnyH_take (i := 24) (v := .bool true) rfl (by kernel_rfl) (by kernel_rfl) (by kernel_rfl) (fun _ _ _ h => h) (yk_move (by kernel_rfl) _ rfl _ (by kernel_rfl)) hH4 ?_
  refine wpAnyH_take (i := 25) (v := .string k1) rfl (by kernel_rfl) (by kernel_rfl) (by kernel_rfl) (fun _ _ _ h => h) (yk_move (by kernel_rfl) _ rfl _ (by kernel_rfl)) hH4 ?_
  refine wpAnyH_take (i := 26) (v := .string a1) rfl (by kernel_rfl) (by kernel_rfl) (by kernel_rfl) (fun _ _ _ h => h) (yk_move (by kernel_rfl) _ rfl _ (by kernel_rfl)) hH4 ?_
  refine wpAnyH_take (i := 27) (v := .agg (U8s Y).toArray) rfl (by kernel_rfl) (by kernel_rfl) (by kernel_rfl) (fun _ _ _ h => h) (yieldsIf_load_mid (by kernel_rfl) _ _ rfl gy 0 (by kernel_rfl) (U8s Y) _ (fun _ h => SX.at h (.head _)) Tryd.underlying26 rfl hszY.out) hH4 ?_
  refine wpAnyH_take (i := 29) (v := .bool (decide (X = Y))) rfl (by kernel_rfl) (by kernel_rfl) (by kernel_rfl) (fun _ _ _ h => h) (yk_move (by kernel_rfl) _ rfl _ (by kernel_rfl)) hH4 ?_
  refine wpAnyH_ready (rs := [28]) (by kernel_rfl) (by simp) ?_
  refine AllReadyH.cons rfl (fun K hK => ?_) AllReadyH.nil
  go_simp
  go_at_call 33
  refine (hria.out Y _ hY (SX.tabs hH4)).mono ?_
  rintro e w28 ⟨rfl, hd4⟩
  go_wp2_with fail
  refine hK.out _ _ (SX.on hH4 hd4) (fun hH5 => ?_)
  clear hK K
  refine wpAnyH_take (i := 30) (v := .bool true) rfl (by kernel_rfl) (by kernel_rfl) (by kernel_rfl) (fun _ _ _ h => h) (yk_bin (by kernel_rfl) _ _ _ _ _ rfl (.bool (decide (X = Y))) (.bool (decide (X = Y))) (by kernel_rfl) (by kernel_rfl) _ (fun w' hw' => bool_eq _ _ _ _ rfl w')) hH5 ?_
  refine wpAnyH_take (i := 31) (v := .bool true) rfl (by kernel_rfl) (by kernel_rfl) (by kernel_rfl) (fun _ _ _ h => h) (yk_pick (by kernel_rfl) _ _ _ rfl true (by kernel_rfl) _ (by kernel_rfl)) hH5 ?_
  refine wpAnyH_take (i := 32) (v := .bool true) rfl (by kernel_rfl) (by kernel_rfl) (by kernel_rfl) (fun _ _ _ h => h) (yk_move (by kernel_rfl) _ rfl _ (by kernel_rfl)) hH5 ?_
  refine wpAnyH_take (i := 33) (v := .pointer (some ⟨g, 0, none⟩)) rfl (by kernel_rfl) (by kernel_rfl) (by kernel_rfl) (fun _ _ _ h => h) (yk_move (by kernel_rfl) _ rfl _ (by kernel_rfl)) hH5 ?_
  refine wpAnyH_take (i := 34) (v := .string a1) rfl (by kernel_rfl) (by kernel_rfl) (by kernel_rfl) (fun _ _ _ h => h) (yk_move (by kernel_rfl) _ rfl _ (by kernel_rfl)) hH5 ?_
  refine wpAnyH_take (i := 37) (v := .agg (U8s X).toArray) rfl (by kernel_rfl) (by kernel_rfl) (by kernel_rfl) (fun _ _ _ h => h) (yieldsIf_load_mid (by kernel_rfl) _ _ rfl gx 0 (by kernel_rfl) (U8s X) _ (fun _ h => SX.at h (.tail _ (.head _))) Tryd.underlying26 rfl hszX.out) hH5 ?_
  refine wpAnyH_ready (rs := [35]) (by kernel_rfl) (by simp) ?_
  refine AllReadyH.cons rfl (fun K hK => ?_) AllReadyH.nil
  go_simp
  refine hK.out _ _ (SX.on hH5 (BW_alloc (BW_refl _) _)) (fun hH6 => ?_)
  clear hK K
  refine wpAnyH_ready (rs := [36]) (by kernel_rfl) (by simp) ?_
  refine AllReadyH.cons rfl (fun K hK => ?_) AllReadyH.nil
  go_simp
  go_at_call 35
  refine (hsea.out _ _ _ (SX.slr hH6) (Lib.hid (strs1 _ _)) (SX.tabs hH6)).mono ?_
  rintro e w36 ⟨rfl, hd5⟩
  go_wp2_with fail
  refine hK.out _ _ (SX.on hH6 hd5) (fun hH7 => ?_)
  clear hK K
  refine wpAnyH_take (i := 38) (v := .bool true) rfl (by kernel_rfl) (by kernel_rfl) (by kernel_rfl) (fun _ _ _ h => h) (yk_bin (by kernel_rfl) _ _ _ _ _ rfl (.agg (U8s X).toArray) (.agg (U8s X).toArray) (by kernel_rfl) (by kernel_rfl) _ (fun w' hw' => hqx _ _ w')) hH7 ?_
  refine wpAnyH_take (i := 39) (v := .bool true) rfl (by kernel_rfl) (by kernel_rfl) (by kernel_rfl) (fun _ _ _ h => h) (yk_pick (by kernel_rfl) _ _ _ rfl true (by kernel_rfl) _ (by kernel_rfl)) hH7 ?_
  refine wpAnyH_take (i := 40) (v := .bool true) rfl (by kernel_rfl) (by kernel_rfl) (by kernel_rfl) (fun _ _ _ h => h) (yk_assign (by kernel_rfl) _ rfl _ (by kernel_rfl)) hH7 ?_
  refine wpAnyH_done (by kernel_rfl) ?_ _
  have hbf := SX.below hH7
  go_wp2_with fail
  go_ret
  exact ⟨rfl, hbf⟩
end Go.Proofs.YtidceockbjeaoaaDoor

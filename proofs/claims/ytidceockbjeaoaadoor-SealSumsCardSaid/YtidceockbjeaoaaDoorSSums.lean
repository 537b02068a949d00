/- The walk of the law SealSums. -/
import Derived.Test.YtidceockbjeaoaaDoorSX
import Derived.Deep.DeepCutAuto
namespace Go.Proofs.YtidceockbjeaoaaDoor
open Go.RowKit
attribute [local go_sem ↓] Go.wp_at_zero Go.wp_at_succ
set_option maxHeartbeats 4000000 in
set_option maxRecDepth 100000 in
theorem l3sums_any (key s : ByteArray) (M : List Nat) (hM : IsH M) (w : World) (ht : Hid (Tabs w)) :
    Calls Tryd.prog 9 #[.string key, .string s, .agg (U8s M).toArray] w fun e w' => e = .returned (.bool true) ∧ Below w.heap.size w w' := by
  have hz_k1 := shN_size key 150
  have hsh_k1 := Lib.hid (short03_any key 150)
  generalize shN key 150 = k1 at *
  have hz_s1 := shN_size s 200
  have hsh_s1 := Lib.hid (short03_any s 200)
  generalize shN s 200 = s1 at *
  have hS := (SX.nil ht.out).box hM
  clear ht
  go_enter Tryd.func9, Tryd.ntmps9
  go_upto_region 1 with (fail)
  change Code.wp _ _ _ _ (w.alloc (.cells (U8s M).toArray 26))
  generalize w.alloc (.cells (U8s M).toArray 26) = W at *
  go_wp2_with fail
  refine (awake03_any _ hS.tabs).mono ?_
  rintro e w1 ⟨rfl, hb1⟩
  replace hS := hS.on hb1
  clear hb1
  go_wp2_with fail
  refine (hsh_k1.out _).mono ?_
  rintro e w' ⟨rfl, rfl⟩
  go_wp2_with fail
  refine (hsh_s1.out _).mono ?_
  rintro e w' ⟨rfl, rfl⟩
  go_wp2_with fail
  refine (rof_any k1 s1 _ (by omega) (by omega)).mono ?_
  rintro e w2 ⟨rfl, hb2⟩
  replace hS := hS.on hb2
  have hA := mac_IsH (kb (bysN k1)) (bysN s1)
  have hof := Lib.hid (fun w ht => sof_any k1 s1 w (by omega) (by omega) ht)
  have hri := Lib.hid (fun M w hM ht => sright_any k1 s1 M w (by omega) (by omega) hM ht)
  generalize mac (kb (bysN k1)) (bysN s1) = A at *
  clear hb2
  have hth := Lib.hid (hash_there w2 hA)
  have hsz := Lib.hid (hash_sz hA)
  have hone := Lib.hid (hash_one A)
  replace hS := SX.put hS hA
  go_upto_region 5 with (refine wpList_store_mid rfl 26 _ _ rfl w2.heap.size 0 (U8s A).toArray rfl rfl hth.out hsz.out hone.out ?_)
  change Code.wp _ _ _ _ ((w2.alloc (.cells (U8s z32).toArray 26)).setCells w2.heap.size 0 (U8s A))
  clear hth hsz hone
  generalize (w2.alloc (.cells (U8s z32).toArray 26)).setCells w2.heap.size 0 (U8s A) = V at *
  generalize w2.heap.size = ga at *
  have hszA := Lib.hid (hash_szl hA)
  have hszM := Lib.hid (hash_szl hM)
  have hq1 := hash_eq_rfl hA
  have hq2 := hash_eq hM hA
  have hq3 : Hid (decide (A = M) = decide (M = A)) := Lib.hid (by simp only [eq_comm])
  refine wp_region_held_drew (S := SX w [(ga, A), (w.heap.size, M)] none z64 (.slice none 0 0) []) (by kernel_rfl) hS.drew (fun hH0 => ?_)
  refine wpAnyH_take (i := 0) (v := .bool true) rfl (by kernel_rfl) (by kernel_rfl) (by kernel_rfl) (fun _ _ _ h => h) (yk_move (by kernel_rfl) _ rfl _ (by kernel_rfl)) hH0 ?_
  refine wpAnyH_take (i := 1) (v := .bool true) rfl (by kernel_rfl) (by kernel_rfl) (by kernel_rfl) (fun _ _ _ h => h) (yk_move (by kernel_rfl) _ rfl _ (by kernel_rfl)) hH0 ?_
  refine wpAnyH_take (i := 2) (v := .string k1) rfl (by kernel_rfl) (by kernel_rfl) (by kernel_rfl) (fun _ _ _ h => h) (yk_move (by kernel_rfl) _ rfl _ (by kernel_rfl)) hH0 ?_
  refine wpAnyH_take (i := 3) (v := .string s1) rfl (by kernel_rfl) (by kernel_rfl) (by kernel_rfl) (fun _ _ _ h => h) (yk_move (by kernel_rfl) _ rfl _ (by kernel_rfl)) hH0 ?_
  refine wpAnyH_take (i := 5) (v := .agg (U8s A).toArray) rfl (by kernel_rfl) (by kernel_rfl) (by kernel_rfl) (fun _ _ _ h => h) (yieldsIf_load_mid (by kernel_rfl) _ _ rfl ga 0 (by kernel_rfl) (U8s A) _ (fun _ h => SX.at h (.head _)) Tryd.underlying26 rfl hszA.out) hH0 ?_
  refine wpAnyH_ready (rs := [4]) (by kernel_rfl) (by simp) ?_
  refine AllReadyH.cons rfl (fun K hK => ?_) AllReadyH.nil
  go_simp
  go_at_call 32
  refine (hof.out _ (SX.tabs hH0)).mono ?_
  rintro e w4 ⟨rfl, hd4⟩
  go_wp2_with fail
  refine hK.out _ _ (SX.on hH0 hd4) (fun hH1 => ?_)
  clear hK K
  refine wpAnyH_take (i := 6) (v := .bool true) rfl (by kernel_rfl) (by kernel_rfl) (by kernel_rfl) (fun _ _ _ h => h) (yk_bin (by kernel_rfl) _ _ _ _ _ rfl (.agg (U8s A).toArray) (.agg (U8s A).toArray) (by kernel_rfl) (by kernel_rfl) _ (fun w' hw' => hq1 _ _ w')) hH1 ?_
  refine wpAnyH_take (i := 7) (v := .bool true) rfl (by kernel_rfl) (by kernel_rfl) (by kernel_rfl) (fun _ _ _ h => h) (yk_pick (by kernel_rfl) _ _ _ rfl true (by kernel_rfl) _ (by kernel_rfl)) hH1 ?_
  refine wpAnyH_take (i := 8) (v := .bool true) rfl (by kernel_rfl) (by kernel_rfl) (by kernel_rfl) (fun _ _ _ h => h) (yk_move (by kernel_rfl) _ rfl _ (by kernel_rfl)) hH1 ?_
  refine wpAnyH_take (i := 9) (v := .string k1) rfl (by kernel_rfl) (by kernel_rfl) (by kernel_rfl) (fun _ _ _ h => h) (yk_move (by kernel_rfl) _ rfl _ (by kernel_rfl)) hH1 ?_
  refine wpAnyH_take (i := 10) (v := .string s1) rfl (by kernel_rfl) (by kernel_rfl) (by kernel_rfl) (fun _ _ _ h => h) (yk_move (by kernel_rfl) _ rfl _ (by kernel_rfl)) hH1 ?_
  refine wpAnyH_take (i := 11) (v := .agg (U8s A).toArray) rfl (by kernel_rfl) (by kernel_rfl) (by kernel_rfl) (fun _ _ _ h => h) (yieldsIf_load_mid (by kernel_rfl) _ _ rfl ga 0 (by kernel_rfl) (U8s A) _ (fun _ h => SX.at h (.head _)) Tryd.underlying26 rfl hszA.out) hH1 ?_
  refine wpAnyH_ready (rs := [12]) (by kernel_rfl) (by simp) ?_
  refine AllReadyH.cons rfl (fun K hK => ?_) AllReadyH.nil
  go_simp
  go_at_call 33
  refine (hri.out A _ hA (SX.tabs hH1)).mono ?_
  rintro e w12 ⟨rfl, hd12⟩
  rw [show decide (A = A) = true from decide_eq_true rfl]
  go_wp2_with fail
  refine hK.out _ _ (SX.on hH1 hd12) (fun hH2 => ?_)
  clear hK K
  refine wpAnyH_take (i := 13) (v := .bool true) rfl (by kernel_rfl) (by kernel_rfl) (by kernel_rfl) (fun _ _ _ h => h) (yk_pick (by kernel_rfl) _ _ _ rfl true (by kernel_rfl) _ (by kernel_rfl)) hH2 ?_
  refine wpAnyH_take (i := 14) (v := .bool true) rfl (by kernel_rfl) (by kernel_rfl) (by kernel_rfl) (fun _ _ _ h => h) (yk_move (by kernel_rfl) _ rfl _ (by kernel_rfl)) hH2 ?_
  refine wpAnyH_take (i := 15) (v := .string k1) rfl (by kernel_rfl) (by kernel_rfl) (by kernel_rfl) (fun _ _ _ h => h) (yk_move (by kernel_rfl) _ rfl _ (by kernel_rfl)) hH2 ?_
  refine wpAnyH_take (i := 16) (v := .string s1) rfl (by kernel_rfl) (by kernel_rfl) (by kernel_rfl) (fun _ _ _ h => h) (yk_move (by kernel_rfl) _ rfl _ (by kernel_rfl)) hH2 ?_
  refine wpAnyH_take (i := 17) (v := .agg (U8s M).toArray) rfl (by kernel_rfl) (by kernel_rfl) (by kernel_rfl) (fun _ _ _ h => h) (yieldsIf_load_mid (by kernel_rfl) _ _ rfl w.heap.size 0 (by kernel_rfl) (U8s M) _ (fun _ h => SX.at h (.tail _ (.head _))) Tryd.underlying26 rfl hszM.out) hH2 ?_
  refine wpAnyH_take (i := 19) (v := .agg (U8s M).toArray) rfl (by kernel_rfl) (by kernel_rfl) (by kernel_rfl) (fun _ _ _ h => h) (yieldsIf_load_mid (by kernel_rfl) _ _ rfl w.heap.size 0 (by kernel_rfl) (U8s M) _ (fun _ h => SX.at h (.tail _ (.head _))) Tryd.underlying26 rfl hszM.out) hH2 ?_
  refine wpAnyH_take (i := 20) (v := .agg (U8s A).toArray) rfl (by kernel_rfl) (by kernel_rfl) (by kernel_rfl) (fun _ _ _ h => h) (yieldsIf_load_mid (by kernel_rfl) _ _ rfl ga 0 (by kernel_rfl) (U8s A) _ (fun _ h => SX.at h (.head _)) Tryd.underlying26 rfl hszA.out) hH2 ?_
  refine wpAnyH_take (i := 21) (v := .bool (decide (M = A))) rfl (by kernel_rfl) (by kernel_rfl) (by kernel_rfl) (fun _ _ _ h => h) (yk_bin (by kernel_rfl) _ _ _ _ _ rfl (.agg (U8s M).toArray) (.agg (U8s A).toArray) (by kernel_rfl) (by kernel_rfl) _ (fun w' hw' => hq2 _ _ w')) hH2 ?_
  refine wpAnyH_ready (rs := [18]) (by kernel_rfl) (by simp) ?_
  refine AllReadyH.cons rfl (fun K hK => ?_) AllReadyH.nil
  go_simp
  go_at_call 33
  refine (hri.out M _ hM (SX.tabs hH2)).mono ?_
  rintro e w18 ⟨rfl, hd18⟩
  go_wp2_with fail
  refine hK.out _ _ (SX.on hH2 hd18) (fun hH3 => ?_)
  clear hK K
  refine wpAnyH_take (i := 22) (v := .bool true) rfl (by kernel_rfl) (by kernel_rfl) (by kernel_rfl) (fun _ _ _ h => h) (yk_bin (by kernel_rfl) _ _ _ _ _ rfl (.bool (decide (A = M))) (.bool (decide (M = A))) (by kernel_rfl) (by kernel_rfl) _ (fun w' hw' => bool_eq _ _ _ _ hq3.out w')) hH3 ?_
  refine wpAnyH_take (i := 23) (v := .bool true) rfl (by kernel_rfl) (by kernel_rfl) (by kernel_rfl) (fun _ _ _ h => h) (yk_pick (by kernel_rfl) _ _ _ rfl true (by kernel_rfl) _ (by kernel_rfl)) hH3 ?_
  refine wpAnyH_take (i := 24) (v := .bool true) rfl (by kernel_rfl) (by kernel_rfl) (by kernel_rfl) (fun _ _ _ h => h) (yk_assign (by kernel_rfl) _ rfl _ (by kernel_rfl)) hH3 ?_
  refine wpAnyH_done (by kernel_rfl) ?_ _
  have hbf := SX.below hH3
  go_wp2_with fail
  go_ret
  exact ⟨rfl, hbf⟩
end Go.Proofs.YtidceockbjeaoaaDoor

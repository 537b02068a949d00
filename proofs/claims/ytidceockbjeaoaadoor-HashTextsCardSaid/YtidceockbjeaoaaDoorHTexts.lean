/- The law HashTexts: a hash's text is its bytes, and read as it; others are refused; texts are in order byte by byte: for every input (the walk). -/
import Derived.Test.YtidceockbjeaoaaDoorT1
namespace Go.Proofs.YtidceockbjeaoaaDoor
open Go.RowKit
attribute [local go_sem ↓] Go.wp_at_zero Go.wp_at_succ
theorem z32_IsH : IsH z32 := ⟨rfl, fun b hb => by
  have := List.eq_of_mem_replicate hb
  omega⟩
set_option maxHeartbeats 4000000 in
set_option maxRecDepth 100000 in
theorem htexts_any (A B : List Nat) (s : ByteArray) (hA : IsH A) (hB : IsH B) (w : World) (ht : Hid (Tabs w)) :
    Calls Tryd.prog 8 #[.agg (U8s A).toArray, .agg (U8s B).toArray, .string s] w fun e w' => e = .returned (.bool true) ∧ Below w.heap.size w w' := by
  have hsh := Lib.hid (short02_any s 40)
  generalize shN s 40 = t at *
  have h0 := ((HB.nil ht.out).box hA).box hB
  rw [show (w.alloc (.cells (U8s A).toArray 26)).heap.size = w.heap.size + 1 from World.size_alloc _ _] at h0
  go_enter Tryd.func8, Tryd.ntmps8
  go_upto_region 1 with (fail)
  change Code.wp _ _ _ _ ((w.alloc (.cells (U8s A).toArray 26)).alloc (.cells (U8s B).toArray 26))
  generalize (w.alloc (.cells (U8s A).toArray 26)).alloc (.cells (U8s B).toArray 26) = w1 at *
  generalize hga : w.heap.size = ga at *
  have Hga := Lib.hid hga
  clear hga ht
  generalize ga + 1 = gb at *
  go_wp2_with fail
  refine (awake02_any _ (Lib.hid h0.2.1)).mono ?_
  rintro e w2 ⟨rfl, hd2⟩
  have h1 := h0.on hd2
  clear h0 hd2
  go_wp2_with fail
  refine (hsh.out _).mono ?_
  rintro e w' ⟨rfl, rfl⟩
  go_wp2_with (refine load_hash (by rfl) _ rfl ga rfl A (h1.at (p := (ga, A)) (by simp)) ?_)
  refine (text_any A hA _).mono ?_
  rintro e w3 ⟨rfl, hd3⟩
  have h2 := h1.on hd3
  clear h1 hd3
  go_wp2_with fail
  refine (from_yes (byt A) (by rw [byt_size]; exact hA.1) _).mono ?_
  rintro e w4 ⟨rfl, hd4⟩
  rw [bysN_byt hA.2]
  have h3 := h2.on hd4
  clear h2 hd4
  have h4 := h3.put hA
  have Hth := Lib.hid (hash_there w4 hA)
  have Hsz := Lib.hid (hash_sz hA)
  have Hone := Lib.hid (hash_one A)
  clear h3
  go_upto_region 4 with (first | (refine wpList_store_mid rfl 26 _ _ rfl w4.heap.size 0 (U8s A).toArray rfl rfl Hth.out Hsz.out Hone.out ?_))
  change Code.wp _ _ _ _ ((w4.alloc (.cells (U8s z32).toArray 26)).setCells w4.heap.size 0 (U8s A))
  generalize (w4.alloc (.cells (U8s z32).toArray 26)).setCells w4.heap.size 0 (U8s A) = w5 at *
  generalize w4.heap.size = gx at *
  clear Hth Hsz Hone
  by_cases hs : t.size = 32
  · have hY : IsH (bysN t) := ⟨by rw [bysN_len]; exact hs, bysN_lt t⟩
    have hs2 : ((t.size : Int) == 32) = true := by simp; omega
    go_wp2_with fail
    refine (from_yes t hs _).mono ?_
    rintro e w6 ⟨rfl, hd6⟩
    have h5 := h4.on hd6
    have h6 := h5.put hY
    have Hth := Lib.hid (hash_there w6 hY)
    have Hsz := Lib.hid (hash_sz hY)
    have Hone := Lib.hid (hash_one (bysN t))
    clear h4 h5 hd6 hsh hs
    go_upto_region 5 with (first | (refine wpList_store_mid rfl 26 _ _ rfl w6.heap.size 0 (U8s (bysN t)).toArray rfl rfl Hth.out Hsz.out Hone.out ?_))
    change Code.wp _ _ _ _ ((w6.alloc (.cells (U8s z32).toArray 26)).setCells w6.heap.size 0 (U8s (bysN t)))
    generalize (w6.alloc (.cells (U8s z32).toArray 26)).setCells w6.heap.size 0 (U8s (bysN t)) = w7 at *
    generalize w6.heap.size = gy at *
    clear Hth Hsz Hone
    have h7 := h6.box z32_IsH
    clear h6
    go_upto_region 6 with (fail)
    change Code.wp _ _ _ _ (w7.alloc (.cells (U8s z32).toArray 26))
    generalize w7.alloc (.cells (U8s z32).toArray 26) = w8 at *
    generalize w7.heap.size = gn at *
    refine wp_region_held_drew (S := fun w' => HB w [(gn, z32), (gy, (bysN t)), (gx, A), (gb, B), (ga, A)] w') (by kernel_rfl) h7.drew (fun hH0 => ?_)
    refine wpAnyH_take (i := 0) (v := .bool true) rfl (by kernel_rfl) (by kernel_rfl) (by kernel_rfl) (fun _ _ _ h => h) (yk_move (by kernel_rfl) _ rfl _ (by kernel_rfl)) hH0 ?_
    refine wpAnyH_take (i := 1) (v := .bool true) rfl (by kernel_rfl) (by kernel_rfl) (by kernel_rfl) (fun _ _ _ h => h) (yk_move (by kernel_rfl) _ rfl _ (by kernel_rfl)) hH0 ?_
    refine wpAnyH_take (i := 2) (v := .agg (U8s A).toArray) rfl (by kernel_rfl) (by kernel_rfl) (by kernel_rfl) (fun _ _ _ h => h) (yieldsIf_load_mid (by kernel_rfl) _ _ rfl ga 0 (by kernel_rfl) (U8s A) _ (fun _ h => (h.at (p := (ga, A)) (.tail _ (.tail _ (.tail _ (.tail _ (.head _)))))).2) Tryd.underlying26 rfl (hash_szl hA)) hH0 ?_
    refine wpAnyH_take (i := 4) (v := .agg (U8s A).toArray) rfl (by kernel_rfl) (by kernel_rfl) (by kernel_rfl) (fun _ _ _ h => h) (yieldsIf_load_mid (by kernel_rfl) _ _ rfl ga 0 (by kernel_rfl) (U8s A) _ (fun _ h => (h.at (p := (ga, A)) (.tail _ (.tail _ (.tail _ (.tail _ (.head _)))))).2) Tryd.underlying26 rfl (hash_szl hA)) hH0 ?_
    refine wpAnyH_ready (rs := [3]) (by kernel_rfl) (by simp) ?_
    refine AllReadyH.cons rfl (fun K hK => ?_) AllReadyH.nil
    go_simp
    go_at_call 20
    refine (text_any A hA _).mono ?_
    rintro e w3 ⟨rfl, hd3⟩
    go_wp2_with fail
    refine hK.out _ _ (HB.on hH0 hd3) (fun hH1 => ?_)
    clear hK K
    refine wpAnyH_ready (rs := [5]) (by kernel_rfl) (by simp) ?_
    refine AllReadyH.cons rfl (fun K hK => ?_) AllReadyH.nil
    go_simp
    go_at_call 28
    refine (rtext_any A hA _).mono ?_
    rintro e w5 ⟨rfl, hd5⟩
    go_wp2_with fail
    refine hK.out _ _ (HB.on hH1 hd5) (fun hH2 => ?_)
    clear hK K
    refine wpAnyH_take (i := 6) (v := .bool true) rfl (by kernel_rfl) (by kernel_rfl) (by kernel_rfl) (fun _ _ _ h => h) (yk_bin (by kernel_rfl) _ _ _ _ _ rfl (.string (byt A)) (.string (byt A)) (by kernel_rfl) (by kernel_rfl) _ (fun w' hw' => str_eq_rfl _ _ (byt A) w')) hH2 ?_
    refine wpAnyH_take (i := 7) (v := .bool true) rfl (by kernel_rfl) (by kernel_rfl) (by kernel_rfl) (fun _ _ _ h => h) (yk_pick (by kernel_rfl) _ _ _ rfl true (by kernel_rfl) _ (by kernel_rfl)) hH2 ?_
    refine wpAnyH_take (i := 8) (v := .bool true) rfl (by kernel_rfl) (by kernel_rfl) (by kernel_rfl) (fun _ _ _ h => h) (yk_move (by kernel_rfl) _ rfl _ (by kernel_rfl)) hH2 ?_
    refine wpAnyH_take (i := 9) (v := .agg (U8s A).toArray) rfl (by kernel_rfl) (by kernel_rfl) (by kernel_rfl) (fun _ _ _ h => h) (yieldsIf_load_mid (by kernel_rfl) _ _ rfl gx 0 (by kernel_rfl) (U8s A) _ (fun _ h => (h.at (p := (gx, A)) (.tail _ (.tail _ (.head _)))).2) Tryd.underlying26 rfl (hash_szl hA)) hH2 ?_
    refine wpAnyH_take (i := 10) (v := .agg (U8s A).toArray) rfl (by kernel_rfl) (by kernel_rfl) (by kernel_rfl) (fun _ _ _ h => h) (yieldsIf_load_mid (by kernel_rfl) _ _ rfl ga 0 (by kernel_rfl) (U8s A) _ (fun _ h => (h.at (p := (ga, A)) (.tail _ (.tail _ (.tail _ (.tail _ (.head _)))))).2) Tryd.underlying26 rfl (hash_szl hA)) hH2 ?_
    refine wpAnyH_take (i := 11) (v := .bool true) rfl (by kernel_rfl) (by kernel_rfl) (by kernel_rfl) (fun _ _ _ h => h) (yk_bin (by kernel_rfl) _ _ _ _ _ rfl (.agg (U8s A).toArray) (.agg (U8s A).toArray) (by kernel_rfl) (by kernel_rfl) _ (fun w' hw' => hash_eq_rfl hA _ _ w')) hH2 ?_
    refine wpAnyH_take (i := 12) (v := .bool true) rfl (by kernel_rfl) (by kernel_rfl) (by kernel_rfl) (fun _ _ _ h => h) (yk_pick (by kernel_rfl) _ _ _ rfl true (by kernel_rfl) _ (by kernel_rfl)) hH2 ?_
    refine wpAnyH_take (i := 13) (v := .bool true) rfl (by kernel_rfl) (by kernel_rfl) (by kernel_rfl) (fun _ _ _ h => h) (yk_move (by kernel_rfl) _ rfl _ (by kernel_rfl)) hH2 ?_
    refine wpAnyH_take (i := 14) (v := .int .i64 0) rfl (by kernel_rfl) (by kernel_rfl) (by kernel_rfl) (fun _ _ _ h => h) (yk_move (by kernel_rfl) _ rfl _ (by kernel_rfl)) hH2 ?_
    refine wpAnyH_take (i := 15) (v := .bool true) rfl (by kernel_rfl) (by kernel_rfl) (by kernel_rfl) (fun _ _ _ h => h) (yk_bin (by kernel_rfl) _ _ _ _ _ rfl (.int .i64 0) (.int .i64 0) (by kernel_rfl) (by kernel_rfl) _ (fun w' hw' => by go_simp)) hH2 ?_
    refine wpAnyH_take (i := 16) (v := .bool true) rfl (by kernel_rfl) (by kernel_rfl) (by kernel_rfl) (fun _ _ _ h => h) (yk_pick (by kernel_rfl) _ _ _ rfl true (by kernel_rfl) _ (by kernel_rfl)) hH2 ?_
    refine wpAnyH_take (i := 17) (v := .bool true) rfl (by kernel_rfl) (by kernel_rfl) (by kernel_rfl) (fun _ _ _ h => h) (yk_move (by kernel_rfl) _ rfl _ (by kernel_rfl)) hH2 ?_
    refine wpAnyH_take (i := 18) (v := .int .i64 0) rfl (by kernel_rfl) (by kernel_rfl) (by kernel_rfl) (fun _ _ _ h => h) (yk_move (by kernel_rfl) _ rfl _ (by kernel_rfl)) hH2 ?_
    refine wpAnyH_take (i := 19) (v := .bool true) rfl (by kernel_rfl) (by kernel_rfl) (by kernel_rfl) (fun _ _ _ h => h) (yk_bin (by kernel_rfl) _ _ _ _ _ rfl (.int .i64 0) (.int .i64 0) (by kernel_rfl) (by kernel_rfl) _ (fun w' hw' => by go_simp)) hH2 ?_
    refine wpAnyH_take (i := 20) (v := .string t) rfl (by kernel_rfl) (by kernel_rfl) (by kernel_rfl) (fun _ _ _ h => h) (yk_move (by kernel_rfl) _ rfl _ (by kernel_rfl)) hH2 ?_
    refine wpAnyH_take (i := 21) (v := .int .i64 (t.size : Int)) rfl (by kernel_rfl) (by kernel_rfl) (by kernel_rfl) (fun _ _ _ h => h) (yk_len (by kernel_rfl) _ _ rfl (.string t) (by kernel_rfl) _ (fun w' hw' => by go_simp)) hH2 ?_
    refine wpAnyH_take (i := 22) (v := .bool true) rfl (by kernel_rfl) (by kernel_rfl) (by kernel_rfl) (fun _ _ _ h => h) (yk_bin (by kernel_rfl) _ _ _ _ _ rfl (.int .i64 (t.size : Int)) (.int .i64 32) (by kernel_rfl) (by kernel_rfl) _ (fun w' hw' => by go_simp)) hH2 ?_
    refine wpAnyH_take (i := 23) (v := .bool true) rfl (by kernel_rfl) (by kernel_rfl) (by kernel_rfl) (fun _ _ _ h => h) (yk_bin (by kernel_rfl) _ _ _ _ _ rfl (.bool true) (.bool true) (by kernel_rfl) (by kernel_rfl) _ (fun w' hw' => by go_simp)) hH2 ?_
    refine wpAnyH_take (i := 24) (v := .bool true) rfl (by kernel_rfl) (by kernel_rfl) (by kernel_rfl) (fun _ _ _ h => h) (yk_pick (by kernel_rfl) _ _ _ rfl true (by kernel_rfl) _ (by kernel_rfl)) hH2 ?_
    refine wpAnyH_take (i := 25) (v := .bool true) rfl (by kernel_rfl) (by kernel_rfl) (by kernel_rfl) (fun _ _ _ h => h) (yk_move (by kernel_rfl) _ rfl _ (by kernel_rfl)) hH2 ?_
    refine wpAnyH_take (i := 26) (v := .int .i64 0) rfl (by kernel_rfl) (by kernel_rfl) (by kernel_rfl) (fun _ _ _ h => h) (yk_move (by kernel_rfl) _ rfl _ (by kernel_rfl)) hH2 ?_
    refine wpAnyH_take (i := 27) (v := .bool true) rfl (by kernel_rfl) (by kernel_rfl) (by kernel_rfl) (fun _ _ _ h => h) (yk_bin (by kernel_rfl) _ _ _ _ _ rfl (.int .i64 0) (.int .i64 0) (by kernel_rfl) (by kernel_rfl) _ (fun w' hw' => by go_simp)) hH2 ?_
    refine wpAnyH_take (i := 28) (v := .bool true) rfl (by kernel_rfl) (by kernel_rfl) (by kernel_rfl) (fun _ _ _ h => h) (yk_move (by kernel_rfl) _ rfl _ (by kernel_rfl)) hH2 ?_
    refine wpAnyH_take (i := 29) (v := undef) rfl (by kernel_rfl) (by kernel_rfl) (by kernel_rfl) (fun _ _ _ h => h) (yk_skip (by kernel_rfl)) hH2 ?_
    refine wpAnyH_take (i := 30) (v := undef) rfl (by kernel_rfl) (by kernel_rfl) (by kernel_rfl) (fun _ _ _ h => h) (yk_skip (by kernel_rfl)) hH2 ?_
    refine wpAnyH_take (i := 31) (v := undef) rfl (by kernel_rfl) (by kernel_rfl) (by kernel_rfl) (fun _ _ _ h => h) (yk_skip (by kernel_rfl)) hH2 ?_
    refine wpAnyH_take (i := 32) (v := undef) rfl (by kernel_rfl) (by kernel_rfl) (by kernel_rfl) (fun _ _ _ h => h) (yk_skip (by kernel_rfl)) hH2 ?_
    refine wpAnyH_take (i := 33) (v := undef) rfl (by kernel_rfl) (by kernel_rfl) (by kernel_rfl) (fun _ _ _ h => h) (yk_skip (by kernel_rfl)) hH2 ?_
    refine wpAnyH_take (i := 34) (v := undef) rfl (by kernel_rfl) (by kernel_rfl) (by kernel_rfl) (fun _ _ _ h => h) (yk_skip (by kernel_rfl)) hH2 ?_
    refine wpAnyH_take (i := 35) (v := undef) rfl (by kernel_rfl) (by kernel_rfl) (by kernel_rfl) (fun _ _ _ h => h) (yk_skip (by kernel_rfl)) hH2 ?_
    refine wpAnyH_take (i := 36) (v := (.bool true)) rfl (by kernel_rfl) (by kernel_rfl) (by kernel_rfl) (fun _ _ _ h => h) (yk_pick (by kernel_rfl) _ _ _ rfl true (by kernel_rfl) _ (by kernel_rfl)) hH2 ?_
    refine wpAnyH_take (i := 37) (v := (.bool true)) rfl (by kernel_rfl) (by kernel_rfl) (by kernel_rfl) (fun _ _ _ h => h) (yk_pick (by kernel_rfl) _ _ _ rfl true (by kernel_rfl) _ (by kernel_rfl)) hH2 ?_
    refine wpAnyH_take (i := 38) (v := (.bool true)) rfl (by kernel_rfl) (by kernel_rfl) (by kernel_rfl) (fun _ _ _ h => h) (yk_move (by kernel_rfl) _ rfl _ (by kernel_rfl)) hH2 ?_
    refine wpAnyH_take (i := 39) (v := .int .i64 0) rfl (by kernel_rfl) (by kernel_rfl) (by kernel_rfl) (fun _ _ _ h => h) (yk_move (by kernel_rfl) _ rfl _ (by kernel_rfl)) hH2 ?_
    refine wpAnyH_take (i := 40) (v := .bool false) rfl (by kernel_rfl) (by kernel_rfl) (by kernel_rfl) (fun _ _ _ h => h) (yk_bin (by kernel_rfl) _ _ _ _ _ rfl (.int .i64 0) (.int .i64 0) (by kernel_rfl) (by kernel_rfl) _ (fun w' hw' => by go_simp)) hH2 ?_
    refine wpAnyH_take (i := 41) (v := .bool false) rfl (by kernel_rfl) (by kernel_rfl) (by kernel_rfl) (fun _ _ _ h => h) (yk_move (by kernel_rfl) _ rfl _ (by kernel_rfl)) hH2 ?_
    refine wpAnyH_take (i := 42) (v := .agg (U8s (bysN t)).toArray) rfl (by kernel_rfl) (by kernel_rfl) (by kernel_rfl) (fun _ _ _ h => h) (yieldsIf_load_mid (by kernel_rfl) _ _ rfl gy 0 (by kernel_rfl) (U8s (bysN t)) _ (fun _ h => (h.at (p := (gy, (bysN t))) (.tail _ (.head _))).2) Tryd.underlying26 rfl (hash_szl hY)) hH2 ?_
    refine wpAnyH_take (i := 44) (v := .string t) rfl (by kernel_rfl) (by kernel_rfl) (by kernel_rfl) (fun _ _ _ h => h) (yk_move (by kernel_rfl) _ rfl _ (by kernel_rfl)) hH2 ?_
    refine wpAnyH_ready (rs := [43]) (by kernel_rfl) (by simp) ?_
    refine AllReadyH.cons rfl (fun K hK => ?_) AllReadyH.nil
    go_simp
    go_at_call 20
    refine (text_any (bysN t) hY _).mono ?_
    rintro e w43 ⟨rfl, hd43⟩
    rw [byt_bysN]
    go_wp2_with fail
    refine hK.out _ _ (HB.on hH2 hd43) (fun hH3 => ?_)
    clear hK K
    refine wpAnyH_take (i := 45) (v := .bool true) rfl (by kernel_rfl) (by kernel_rfl) (by kernel_rfl) (fun _ _ _ h => h) (yk_bin (by kernel_rfl) _ _ _ _ _ rfl (.string t) (.string t) (by kernel_rfl) (by kernel_rfl) _ (fun w' hw' => str_eq_rfl _ _ t w')) hH3 ?_
    refine wpAnyH_take (i := 46) (v := .bool true) rfl (by kernel_rfl) (by kernel_rfl) (by kernel_rfl) (fun _ _ _ h => h) (yk_pick (by kernel_rfl) _ _ _ rfl false (by kernel_rfl) _ (by kernel_rfl)) hH3 ?_
    refine wpAnyH_take (i := 47) (v := .bool true) rfl (by kernel_rfl) (by kernel_rfl) (by kernel_rfl) (fun _ _ _ h => h) (yk_pick (by kernel_rfl) _ _ _ rfl true (by kernel_rfl) _ (by kernel_rfl)) hH3 ?_
    refine wpAnyH_take (i := 48) (v := .bool true) rfl (by kernel_rfl) (by kernel_rfl) (by kernel_rfl) (fun _ _ _ h => h) (yk_move (by kernel_rfl) _ rfl _ (by kernel_rfl)) hH3 ?_
    refine wpAnyH_take (i := 49) (v := .agg (U8s A).toArray) rfl (by kernel_rfl) (by kernel_rfl) (by kernel_rfl) (fun _ _ _ h => h) (yieldsIf_load_mid (by kernel_rfl) _ _ rfl ga 0 (by kernel_rfl) (U8s A) _ (fun _ h => (h.at (p := (ga, A)) (.tail _ (.tail _ (.tail _ (.tail _ (.head _)))))).2) Tryd.underlying26 rfl (hash_szl hA)) hH3 ?_
    refine wpAnyH_take (i := 50) (v := .agg (U8s B).toArray) rfl (by kernel_rfl) (by kernel_rfl) (by kernel_rfl) (fun _ _ _ h => h) (yieldsIf_load_mid (by kernel_rfl) _ _ rfl gb 0 (by kernel_rfl) (U8s B) _ (fun _ h => (h.at (p := (gb, B)) (.tail _ (.tail _ (.tail _ (.head _))))).2) Tryd.underlying26 rfl (hash_szl hB)) hH3 ?_
    refine wpAnyH_take (i := 52) (v := .agg (U8s A).toArray) rfl (by kernel_rfl) (by kernel_rfl) (by kernel_rfl) (fun _ _ _ h => h) (yieldsIf_load_mid (by kernel_rfl) _ _ rfl ga 0 (by kernel_rfl) (U8s A) _ (fun _ h => (h.at (p := (ga, A)) (.tail _ (.tail _ (.tail _ (.tail _ (.head _)))))).2) Tryd.underlying26 rfl (hash_szl hA)) hH3 ?_
    refine wpAnyH_take (i := 54) (v := .agg (U8s B).toArray) rfl (by kernel_rfl) (by kernel_rfl) (by kernel_rfl) (fun _ _ _ h => h) (yieldsIf_load_mid (by kernel_rfl) _ _ rfl gb 0 (by kernel_rfl) (U8s B) _ (fun _ h => (h.at (p := (gb, B)) (.tail _ (.tail _ (.tail _ (.head _))))).2) Tryd.underlying26 rfl (hash_szl hB)) hH3 ?_
    refine wpAnyH_ready (rs := [51]) (by kernel_rfl) (by simp) ?_
    refine AllReadyH.cons rfl (fun K hK => ?_) AllReadyH.nil
    go_simp
    go_at_call 19
    refine (less_any A B hA hB _).mono ?_
    rintro e w51 ⟨rfl, hd51⟩
    go_wp2_with fail
    refine hK.out _ _ (HB.on hH3 hd51) (fun hH4 => ?_)
    clear hK K
    refine wpAnyH_ready (rs := [53]) (by kernel_rfl) (by simp) ?_
    refine AllReadyH.cons rfl (fun K hK => ?_) AllReadyH.nil
    go_simp
    go_at_call 28
    refine (rtext_any A hA _).mono ?_
    rintro e w53 ⟨rfl, hd53⟩
    go_wp2_with fail
    refine hK.out _ _ (HB.on hH4 hd53) (fun hH5 => ?_)
    clear hK K
    refine wpAnyH_ready (rs := [55]) (by kernel_rfl) (by simp) ?_
    refine AllReadyH.cons rfl (fun K hK => ?_) AllReadyH.nil
    go_simp
    go_at_call 28
    refine (rtext_any B hB _).mono ?_
    rintro e w55 ⟨rfl, hd55⟩
    go_wp2_with fail
    refine hK.out _ _ (HB.on hH5 hd55) (fun hH6 => ?_)
    clear hK K
    refine wpAnyH_take (i := 56) (v := .bool (Op.bytesLess (byt A).toList (byt B).toList)) rfl (by kernel_rfl) (by kernel_rfl) (by kernel_rfl) (fun _ _ _ h => h) (yk_bin (by kernel_rfl) _ _ _ _ _ rfl (.string (byt A)) (.string (byt B)) (by kernel_rfl) (by kernel_rfl) _ (fun w' hw' => by go_simp)) hH6 ?_
    refine wpAnyH_take (i := 57) (v := .bool true) rfl (by kernel_rfl) (by kernel_rfl) (by kernel_rfl) (fun _ _ _ h => h) (yk_bin (by kernel_rfl) _ _ _ _ _ rfl (.bool (Op.bytesLess (byt A).toList (byt B).toList)) (.bool (Op.bytesLess (byt A).toList (byt B).toList)) (by kernel_rfl) (by kernel_rfl) _ (fun w' hw' => by go_simp)) hH6 ?_
    refine wpAnyH_take (i := 58) (v := .bool true) rfl (by kernel_rfl) (by kernel_rfl) (by kernel_rfl) (fun _ _ _ h => h) (yk_pick (by kernel_rfl) _ _ _ rfl true (by kernel_rfl) _ (by kernel_rfl)) hH6 ?_
    refine wpAnyH_take (i := 59) (v := .bool true) rfl (by kernel_rfl) (by kernel_rfl) (by kernel_rfl) (fun _ _ _ h => h) (yk_assign (by kernel_rfl) _ rfl _ (by kernel_rfl)) hH6 ?_
    refine wpAnyH_done (by kernel_rfl) ?_ _
    go_wp2_with fail
    go_ret
    exact ⟨rfl, hH6.2.2⟩
  · have hs2 : ((t.size : Int) == 32) = false := by simp; omega
    obtain ⟨Z, hZ, hz⟩ : ∃ Z, IsH Z ∧ Z = z32 := ⟨z32, z32_IsH, rfl⟩
    have hfn := from_no t hs
    rw [← hz] at hfn
    have Hfn := Lib.hid hfn
    have Hz := Lib.hid hz
    clear hfn hz
    go_wp2_with fail
    refine (Hfn.out _).mono ?_
    rintro e w6 ⟨rfl, hd6⟩
    have h5 := h4.on hd6
    have h6 := h5.put hZ
    have Hth := Lib.hid (hash_there w6 hZ)
    have Hsz := Lib.hid (hash_sz hZ)
    have Hone := Lib.hid (hash_one Z)
    clear h4 h5 hd6 hsh hs
    go_upto_region 5 with (first | (refine wpList_store_mid rfl 26 _ _ rfl w6.heap.size 0 (U8s Z).toArray rfl rfl Hth.out Hsz.out Hone.out ?_))
    change Code.wp _ _ _ _ ((w6.alloc (.cells (U8s z32).toArray 26)).setCells w6.heap.size 0 (U8s Z))
    generalize (w6.alloc (.cells (U8s z32).toArray 26)).setCells w6.heap.size 0 (U8s Z) = w7 at *
    generalize w6.heap.size = gy at *
    clear Hth Hsz Hone
    have h7 := h6.box z32_IsH
    clear h6
    go_upto_region 6 with (fail)
    change Code.wp _ _ _ _ (w7.alloc (.cells (U8s z32).toArray 26))
    generalize w7.alloc (.cells (U8s z32).toArray 26) = w8 at *
    generalize w7.heap.size = gn at *
    refine wp_region_held_drew (S := fun w' => HB w [(gn, z32), (gy, Z), (gx, A), (gb, B), (ga, A)] w') (by kernel_rfl) h7.drew (fun hH0 => ?_)
    refine wpAnyH_take (i := 0) (v := .bool true) rfl (by kernel_rfl) (by kernel_rfl) (by kernel_rfl) (fun _ _ _ h => h) (yk_move (by kernel_rfl) _ rfl _ (by kernel_rfl)) hH0 ?_
    refine wpAnyH_take (i := 1) (v := .bool true) rfl (by kernel_rfl) (by kernel_rfl) (by kernel_rfl) (fun _ _ _ h => h) (yk_move (by kernel_rfl) _ rfl _ (by kernel_rfl)) hH0 ?_
    refine wpAnyH_take (i := 2) (v := .agg (U8s A).toArray) rfl (by kernel_rfl) (by kernel_rfl) (by kernel_rfl) (fun _ _ _ h => h) (yieldsIf_load_mid (by kernel_rfl) _ _ rfl ga 0 (by kernel_rfl) (U8s A) _ (fun _ h => (h.at (p := (ga, A)) (.tail _ (.tail _ (.tail _ (.tail _ (.head _)))))).2) Tryd.underlying26 rfl (hash_szl hA)) hH0 ?_
    refine wpAnyH_take (i := 4) (v := .agg (U8s A).toArray) rfl (by kernel_rfl) (by kernel_rfl) (by kernel_rfl) (fun _ _ _ h => h) (yieldsIf_load_mid (by kernel_rfl) _ _ rfl ga 0 (by kernel_rfl) (U8s A) _ (fun _ h => (h.at (p := (ga, A)) (.tail _ (.tail _ (.tail _ (.tail _ (.head _)))))).2) Tryd.underlying26 rfl (hash_szl hA)) hH0 ?_
    refine wpAnyH_ready (rs := [3]) (by kernel_rfl) (by simp) ?_
    refine AllReadyH.cons rfl (fun K hK => ?_) AllReadyH.nil
    go_simp
    go_at_call 20
    refine (text_any A hA _).mono ?_
    rintro e w3 ⟨rfl, hd3⟩
    go_wp2_with fail
    refine hK.out _ _ (HB.on hH0 hd3) (fun hH1 => ?_)
    clear hK K
    refine wpAnyH_ready (rs := [5]) (by kernel_rfl) (by simp) ?_
    refine AllReadyH.cons rfl (fun K hK => ?_) AllReadyH.nil
    go_simp
    go_at_call 28
    refine (rtext_any A hA _).mono ?_
    rintro e w5 ⟨rfl, hd5⟩
    go_wp2_with fail
    refine hK.out _ _ (HB.on hH1 hd5) (fun hH2 => ?_)
    clear hK K
    refine wpAnyH_take (i := 6) (v := .bool true) rfl (by kernel_rfl) (by kernel_rfl) (by kernel_rfl) (fun _ _ _ h => h) (yk_bin (by kernel_rfl) _ _ _ _ _ rfl (.string (byt A)) (.string (byt A)) (by kernel_rfl) (by kernel_rfl) _ (fun w' hw' => str_eq_rfl _ _ (byt A) w')) hH2 ?_
    refine wpAnyH_take (i := 7) (v := .bool true) rfl (by kernel_rfl) (by kernel_rfl) (by kernel_rfl) (fun _ _ _ h => h) (yk_pick (by kernel_rfl) _ _ _ rfl true (by kernel_rfl) _ (by kernel_rfl)) hH2 ?_
    refine wpAnyH_take (i := 8) (v := .bool true) rfl (by kernel_rfl) (by kernel_rfl) (by kernel_rfl) (fun _ _ _ h => h) (yk_move (by kernel_rfl) _ rfl _ (by kernel_rfl)) hH2 ?_
    refine wpAnyH_take (i := 9) (v := .agg (U8s A).toArray) rfl (by kernel_rfl) (by kernel_rfl) (by kernel_rfl) (fun _ _ _ h => h) (yieldsIf_load_mid (by kernel_rfl) _ _ rfl gx 0 (by kernel_rfl) (U8s A) _ (fun _ h => (h.at (p := (gx, A)) (.tail _ (.tail _ (.head _)))).2) Tryd.underlying26 rfl (hash_szl hA)) hH2 ?_
    refine wpAnyH_take (i := 10) (v := .agg (U8s A).toArray) rfl (by kernel_rfl) (by kernel_rfl) (by kernel_rfl) (fun _ _ _ h => h) (yieldsIf_load_mid (by kernel_rfl) _ _ rfl ga 0 (by kernel_rfl) (U8s A) _ (fun _ h => (h.at (p := (ga, A)) (.tail _ (.tail _ (.tail _ (.tail _ (.head _)))))).2) Tryd.underlying26 rfl (hash_szl hA)) hH2 ?_
    refine wpAnyH_take (i := 11) (v := .bool true) rfl (by kernel_rfl) (by kernel_rfl) (by kernel_rfl) (fun _ _ _ h => h) (yk_bin (by kernel_rfl) _ _ _ _ _ rfl (.agg (U8s A).toArray) (.agg (U8s A).toArray) (by kernel_rfl) (by kernel_rfl) _ (fun w' hw' => hash_eq_rfl hA _ _ w')) hH2 ?_
    refine wpAnyH_take (i := 12) (v := .bool true) rfl (by kernel_rfl) (by kernel_rfl) (by kernel_rfl) (fun _ _ _ h => h) (yk_pick (by kernel_rfl) _ _ _ rfl true (by kernel_rfl) _ (by kernel_rfl)) hH2 ?_
    refine wpAnyH_take (i := 13) (v := .bool true) rfl (by kernel_rfl) (by kernel_rfl) (by kernel_rfl) (fun _ _ _ h => h) (yk_move (by kernel_rfl) _ rfl _ (by kernel_rfl)) hH2 ?_
    refine wpAnyH_take (i := 14) (v := .int .i64 0) rfl (by kernel_rfl) (by kernel_rfl) (by kernel_rfl) (fun _ _ _ h => h) (yk_move (by kernel_rfl) _ rfl _ (by kernel_rfl)) hH2 ?_
    refine wpAnyH_take (i := 15) (v := .bool true) rfl (by kernel_rfl) (by kernel_rfl) (by kernel_rfl) (fun _ _ _ h => h) (yk_bin (by kernel_rfl) _ _ _ _ _ rfl (.int .i64 0) (.int .i64 0) (by kernel_rfl) (by kernel_rfl) _ (fun w' hw' => by go_simp)) hH2 ?_
    refine wpAnyH_take (i := 16) (v := .bool true) rfl (by kernel_rfl) (by kernel_rfl) (by kernel_rfl) (fun _ _ _ h => h) (yk_pick (by kernel_rfl) _ _ _ rfl true (by kernel_rfl) _ (by kernel_rfl)) hH2 ?_
    refine wpAnyH_take (i := 17) (v := .bool true) rfl (by kernel_rfl) (by kernel_rfl) (by kernel_rfl) (fun _ _ _ h => h) (yk_move (by kernel_rfl) _ rfl _ (by kernel_rfl)) hH2 ?_
    refine wpAnyH_take (i := 18) (v := .int .i64 10) rfl (by kernel_rfl) (by kernel_rfl) (by kernel_rfl) (fun _ _ _ h => h) (yk_move (by kernel_rfl) _ rfl _ (by kernel_rfl)) hH2 ?_
    refine wpAnyH_take (i := 19) (v := .bool false) rfl (by kernel_rfl) (by kernel_rfl) (by kernel_rfl) (fun _ _ _ h => h) (yk_bin (by kernel_rfl) _ _ _ _ _ rfl (.int .i64 10) (.int .i64 0) (by kernel_rfl) (by kernel_rfl) _ (fun w' hw' => by go_simp)) hH2 ?_
    refine wpAnyH_take (i := 20) (v := .string t) rfl (by kernel_rfl) (by kernel_rfl) (by kernel_rfl) (fun _ _ _ h => h) (yk_move (by kernel_rfl) _ rfl _ (by kernel_rfl)) hH2 ?_
    refine wpAnyH_take (i := 21) (v := .int .i64 (t.size : Int)) rfl (by kernel_rfl) (by kernel_rfl) (by kernel_rfl) (fun _ _ _ h => h) (yk_len (by kernel_rfl) _ _ rfl (.string t) (by kernel_rfl) _ (fun w' hw' => by go_simp)) hH2 ?_
    refine wpAnyH_take (i := 22) (v := .bool false) rfl (by kernel_rfl) (by kernel_rfl) (by kernel_rfl) (fun _ _ _ h => h) (yk_bin (by kernel_rfl) _ _ _ _ _ rfl (.int .i64 (t.size : Int)) (.int .i64 32) (by kernel_rfl) (by kernel_rfl) _ (fun w' hw' => by go_simp)) hH2 ?_
    refine wpAnyH_take (i := 23) (v := .bool true) rfl (by kernel_rfl) (by kernel_rfl) (by kernel_rfl) (fun _ _ _ h => h) (yk_bin (by kernel_rfl) _ _ _ _ _ rfl (.bool false) (.bool false) (by kernel_rfl) (by kernel_rfl) _ (fun w' hw' => by go_simp)) hH2 ?_
    refine wpAnyH_take (i := 24) (v := .bool true) rfl (by kernel_rfl) (by kernel_rfl) (by kernel_rfl) (fun _ _ _ h => h) (yk_pick (by kernel_rfl) _ _ _ rfl true (by kernel_rfl) _ (by kernel_rfl)) hH2 ?_
    refine wpAnyH_take (i := 25) (v := .bool true) rfl (by kernel_rfl) (by kernel_rfl) (by kernel_rfl) (fun _ _ _ h => h) (yk_move (by kernel_rfl) _ rfl _ (by kernel_rfl)) hH2 ?_
    refine wpAnyH_take (i := 26) (v := .int .i64 10) rfl (by kernel_rfl) (by kernel_rfl) (by kernel_rfl) (fun _ _ _ h => h) (yk_move (by kernel_rfl) _ rfl _ (by kernel_rfl)) hH2 ?_
    refine wpAnyH_take (i := 27) (v := .bool false) rfl (by kernel_rfl) (by kernel_rfl) (by kernel_rfl) (fun _ _ _ h => h) (yk_bin (by kernel_rfl) _ _ _ _ _ rfl (.int .i64 10) (.int .i64 0) (by kernel_rfl) (by kernel_rfl) _ (fun w' hw' => by go_simp)) hH2 ?_
    refine wpAnyH_take (i := 28) (v := .bool false) rfl (by kernel_rfl) (by kernel_rfl) (by kernel_rfl) (fun _ _ _ h => h) (yk_move (by kernel_rfl) _ rfl _ (by kernel_rfl)) hH2 ?_
    refine wpAnyH_take (i := 29) (v := .int .i64 10) rfl (by kernel_rfl) (by kernel_rfl) (by kernel_rfl) (fun _ _ _ h => h) (yk_move (by kernel_rfl) _ rfl _ (by kernel_rfl)) hH2 ?_
    refine wpAnyH_take (i := 30) (v := .bool true) rfl (by kernel_rfl) (by kernel_rfl) (by kernel_rfl) (fun _ _ _ h => h) (yk_bin (by kernel_rfl) _ _ _ _ _ rfl (.int .i64 10) (.int .i64 10) (by kernel_rfl) (by kernel_rfl) _ (fun w' hw' => by go_simp)) hH2 ?_
    refine wpAnyH_take (i := 31) (v := .bool true) rfl (by kernel_rfl) (by kernel_rfl) (by kernel_rfl) (fun _ _ _ h => h) (yk_move (by kernel_rfl) _ rfl _ (by kernel_rfl)) hH2 ?_
    refine wpAnyH_take (i := 32) (v := .agg (U8s Z).toArray) rfl (by kernel_rfl) (by kernel_rfl) (by kernel_rfl) (fun _ _ _ h => h) (yieldsIf_load_mid (by kernel_rfl) _ _ rfl gy 0 (by kernel_rfl) (U8s Z) _ (fun _ h => (h.at (p := (gy, Z)) (.tail _ (.head _))).2) Tryd.underlying26 rfl (hash_szl hZ)) hH2 ?_
    refine wpAnyH_take (i := 33) (v := .agg (U8s z32).toArray) rfl (by kernel_rfl) (by kernel_rfl) (by kernel_rfl) (fun _ _ _ h => h) (yieldsIf_load_mid (by kernel_rfl) _ _ rfl gn 0 (by kernel_rfl) (U8s z32) _ (fun _ h => (h.at (p := (gn, z32)) (.head _)).2) Tryd.underlying26 rfl (hash_szl z32_IsH)) hH2 ?_
    refine wpAnyH_take (i := 34) (v := .bool true) rfl (by kernel_rfl) (by kernel_rfl) (by kernel_rfl) (fun _ _ _ h => h) (yk_bin (by kernel_rfl) _ _ _ _ _ rfl (.agg (U8s Z).toArray) (.agg (U8s z32).toArray) (by kernel_rfl) (by kernel_rfl) _ (fun w' hw' => by rw [hash_eq hZ z32_IsH, decide_eq_true Hz.out])) hH2 ?_
    refine wpAnyH_take (i := 35) (v := .bool true) rfl (by kernel_rfl) (by kernel_rfl) (by kernel_rfl) (fun _ _ _ h => h) (yk_pick (by kernel_rfl) _ _ _ rfl true (by kernel_rfl) _ (by kernel_rfl)) hH2 ?_
    refine wpAnyH_take (i := 36) (v := .bool true) rfl (by kernel_rfl) (by kernel_rfl) (by kernel_rfl) (fun _ _ _ h => h) (yk_pick (by kernel_rfl) _ _ _ rfl false (by kernel_rfl) _ (by kernel_rfl)) hH2 ?_
    refine wpAnyH_take (i := 37) (v := .bool true) rfl (by kernel_rfl) (by kernel_rfl) (by kernel_rfl) (fun _ _ _ h => h) (yk_pick (by kernel_rfl) _ _ _ rfl true (by kernel_rfl) _ (by kernel_rfl)) hH2 ?_
    refine wpAnyH_take (i := 38) (v := .bool true) rfl (by kernel_rfl) (by kernel_rfl) (by kernel_rfl) (fun _ _ _ h => h) (yk_move (by kernel_rfl) _ rfl _ (by kernel_rfl)) hH2 ?_
    refine wpAnyH_take (i := 39) (v := .int .i64 10) rfl (by kernel_rfl) (by kernel_rfl) (by kernel_rfl) (fun _ _ _ h => h) (yk_move (by kernel_rfl) _ rfl _ (by kernel_rfl)) hH2 ?_
    refine wpAnyH_take (i := 40) (v := .bool true) rfl (by kernel_rfl) (by kernel_rfl) (by kernel_rfl) (fun _ _ _ h => h) (yk_bin (by kernel_rfl) _ _ _ _ _ rfl (.int .i64 10) (.int .i64 0) (by kernel_rfl) (by kernel_rfl) _ (fun w' hw' => by go_simp)) hH2 ?_
    refine wpAnyH_take (i := 41) (v := .bool true) rfl (by kernel_rfl) (by kernel_rfl) (by kernel_rfl) (fun _ _ _ h => h) (yk_move (by kernel_rfl) _ rfl _ (by kernel_rfl)) hH2 ?_
    refine wpAnyH_take (i := 42) (v := undef) rfl (by kernel_rfl) (by kernel_rfl) (by kernel_rfl) (fun _ _ _ h => h) (yk_skip (by kernel_rfl)) hH2 ?_
    refine wpAnyH_take (i := 43) (v := undef) rfl (by kernel_rfl) (by kernel_rfl) (by kernel_rfl) (fun _ _ _ h => h) (yk_skip (by kernel_rfl)) hH2 ?_
    refine wpAnyH_take (i := 44) (v := undef) rfl (by kernel_rfl) (by kernel_rfl) (by kernel_rfl) (fun _ _ _ h => h) (yk_skip (by kernel_rfl)) hH2 ?_
    refine wpAnyH_take (i := 45) (v := undef) rfl (by kernel_rfl) (by kernel_rfl) (by kernel_rfl) (fun _ _ _ h => h) (yk_skip (by kernel_rfl)) hH2 ?_
    refine wpAnyH_take (i := 46) (v := (.bool true)) rfl (by kernel_rfl) (by kernel_rfl) (by kernel_rfl) (fun _ _ _ h => h) (yk_pick (by kernel_rfl) _ _ _ rfl true (by kernel_rfl) _ (by kernel_rfl)) hH2 ?_
    refine wpAnyH_take (i := 47) (v := (.bool true)) rfl (by kernel_rfl) (by kernel_rfl) (by kernel_rfl) (fun _ _ _ h => h) (yk_pick (by kernel_rfl) _ _ _ rfl true (by kernel_rfl) _ (by kernel_rfl)) hH2 ?_
    refine wpAnyH_take (i := 48) (v := (.bool true)) rfl (by kernel_rfl) (by kernel_rfl) (by kernel_rfl) (fun _ _ _ h => h) (yk_move (by kernel_rfl) _ rfl _ (by kernel_rfl)) hH2 ?_
    refine wpAnyH_take (i := 49) (v := .agg (U8s A).toArray) rfl (by kernel_rfl) (by kernel_rfl) (by kernel_rfl) (fun _ _ _ h => h) (yieldsIf_load_mid (by kernel_rfl) _ _ rfl ga 0 (by kernel_rfl) (U8s A) _ (fun _ h => (h.at (p := (ga, A)) (.tail _ (.tail _ (.tail _ (.tail _ (.head _)))))).2) Tryd.underlying26 rfl (hash_szl hA)) hH2 ?_
    refine wpAnyH_take (i := 50) (v := .agg (U8s B).toArray) rfl (by kernel_rfl) (by kernel_rfl) (by kernel_rfl) (fun _ _ _ h => h) (yieldsIf_load_mid (by kernel_rfl) _ _ rfl gb 0 (by kernel_rfl) (U8s B) _ (fun _ h => (h.at (p := (gb, B)) (.tail _ (.tail _ (.tail _ (.head _))))).2) Tryd.underlying26 rfl (hash_szl hB)) hH2 ?_
    refine wpAnyH_take (i := 52) (v := .agg (U8s A).toArray) rfl (by kernel_rfl) (by kernel_rfl) (by kernel_rfl) (fun _ _ _ h => h) (yieldsIf_load_mid (by kernel_rfl) _ _ rfl ga 0 (by kernel_rfl) (U8s A) _ (fun _ h => (h.at (p := (ga, A)) (.tail _ (.tail _ (.tail _ (.tail _ (.head _)))))).2) Tryd.underlying26 rfl (hash_szl hA)) hH2 ?_
    refine wpAnyH_take (i := 54) (v := .agg (U8s B).toArray) rfl (by kernel_rfl) (by kernel_rfl) (by kernel_rfl) (fun _ _ _ h => h) (yieldsIf_load_mid (by kernel_rfl) _ _ rfl gb 0 (by kernel_rfl) (U8s B) _ (fun _ h => (h.at (p := (gb, B)) (.tail _ (.tail _ (.tail _ (.head _))))).2) Tryd.underlying26 rfl (hash_szl hB)) hH2 ?_
    refine wpAnyH_ready (rs := [51]) (by kernel_rfl) (by simp) ?_
    refine AllReadyH.cons rfl (fun K hK => ?_) AllReadyH.nil
    go_simp
    go_at_call 19
    refine (less_any A B hA hB _).mono ?_
    rintro e w51 ⟨rfl, hd51⟩
    go_wp2_with fail
    refine hK.out _ _ (HB.on hH2 hd51) (fun hH3 => ?_)
    clear hK K
    refine wpAnyH_ready (rs := [53]) (by kernel_rfl) (by simp) ?_
    refine AllReadyH.cons rfl (fun K hK => ?_) AllReadyH.nil
    go_simp
    go_at_call 28
    refine (rtext_any A hA _).mono ?_
    rintro e w53 ⟨rfl, hd53⟩
    go_wp2_with fail
    refine hK.out _ _ (HB.on hH3 hd53) (fun hH4 => ?_)
    clear hK K
    refine wpAnyH_ready (rs := [55]) (by kernel_rfl) (by simp) ?_
    refine AllReadyH.cons rfl (fun K hK => ?_) AllReadyH.nil
    go_simp
    go_at_call 28
    refine (rtext_any B hB _).mono ?_
    rintro e w55 ⟨rfl, hd55⟩
    go_wp2_with fail
    refine hK.out _ _ (HB.on hH4 hd55) (fun hH5 => ?_)
    clear hK K
    refine wpAnyH_take (i := 56) (v := .bool (Op.bytesLess (byt A).toList (byt B).toList)) rfl (by kernel_rfl) (by kernel_rfl) (by kernel_rfl) (fun _ _ _ h => h) (yk_bin (by kernel_rfl) _ _ _ _ _ rfl (.string (byt A)) (.string (byt B)) (by kernel_rfl) (by kernel_rfl) _ (fun w' hw' => by go_simp)) hH5 ?_
    refine wpAnyH_take (i := 57) (v := .bool true) rfl (by kernel_rfl) (by kernel_rfl) (by kernel_rfl) (fun _ _ _ h => h) (yk_bin (by kernel_rfl) _ _ _ _ _ rfl (.bool (Op.bytesLess (byt A).toList (byt B).toList)) (.bool (Op.bytesLess (byt A).toList (byt B).toList)) (by kernel_rfl) (by kernel_rfl) _ (fun w' hw' => by go_simp)) hH5 ?_
    refine wpAnyH_take (i := 58) (v := .bool true) rfl (by kernel_rfl) (by kernel_rfl) (by kernel_rfl) (fun _ _ _ h => h) (yk_pick (by kernel_rfl) _ _ _ rfl true (by kernel_rfl) _ (by kernel_rfl)) hH5 ?_
    refine wpAnyH_take (i := 59) (v := .bool true) rfl (by kernel_rfl) (by kernel_rfl) (by kernel_rfl) (fun _ _ _ h => h) (yk_assign (by kernel_rfl) _ rfl _ (by kernel_rfl)) hH5 ?_
    refine wpAnyH_done (by kernel_rfl) ?_ _
    go_wp2_with fail
    go_ret
    exact ⟨rfl, hH5.2.2⟩
end Go.Proofs.YtidceockbjeaoaaDoor

/- The walk of the law SealPieces. -/
import Derived.Test.YtidceockbjeaoaaDoorSX
import Derived.Deep.DeepCutAuto
namespace Go.Proofs.YtidceockbjeaoaaDoor
open Go.RowKit
attribute [local go_sem ↓] Go.wp_at_zero Go.wp_at_succ
theorem infoST : (Tryd.prog.info? 9).map (fun i => (i.zero, i.size, i.bytes)) = some (some (.string ⟨#[]⟩), 1, 16) := by kernel_rfl
theorem own2_strs {w : World} {base n : Nat} {v : Value} {Ls : List ByteArray} (h : own2 w base 9 v n (Ls.map Value.string)) (hn : n = Ls.length) : Strs w v Ls := by
  subst hn
  rcases h with ⟨rfl, h0, h1⟩ | h
  · have : Ls = [] := by simpa using h1
    subst this
    exact ⟨none, 0, rfl, fun h => by simp at h⟩
  · obtain ⟨g, cap, rfl, _, _, _, _, hc⟩ := h.form
    refine ⟨_, cap, rfl, fun _ => ⟨g, 0, rfl, fun i hi => ?_⟩⟩
    rw [Nat.zero_add]
    exact hc i _ (by rw [List.getElem?_map, List.getElem?_eq_getElem hi]; rfl)
/-- The first pieces, each short. -/
def pcs (L : List ByteArray) (k : Nat) : List ByteArray := (L.take k).map fun x => shN x 60
theorem pcs_succ (L : List ByteArray) (k : Nat) (h : k < L.length) : pcs L (k + 1) = pcs L k ++ [shN L[k] 60] := by
  unfold pcs
  rw [List.take_succ_eq_append_getElem h, List.map_append]
  rfl
theorem pcs_len (L : List ByteArray) (k : Nat) (h : k ≤ L.length) : (pcs L k).length = k := by
  unfold pcs
  rw [List.length_map, List.length_take]
  omega
theorem allB_app (L : List ByteArray) (s : ByteArray) : allB (L ++ [s]) = allB L ++ bysN s := by
  unfold allB
  rw [List.flatMap_append]
  simp
set_option maxHeartbeats 4000000 in
set_option maxRecDepth 100000 in
theorem l3pieces_any (key : ByteArray) (v : Value) (L : List ByteArray) (M : List Nat) (hM : IsH M) (w : World) (hv : Hid (Strs w v L)) (hL : L.length ≤ 9223372036854775807) (ht : Hid (Tabs w)) :
    Calls Tryd.prog 10 #[.string key, v, .agg (U8s M).toArray] w fun e w' => e = .returned (.bool true) ∧ Below w.heap.size w w' := by
  obtain ⟨i0, hi0, iz0, iz1, iz2⟩ := info_parts infoST
  obtain ⟨pv, cap, rfl, hf⟩ := hv.out
  have hz_k1 := shN_size key 150
  have hsh_k1 := Lib.hid (short03_any key 150)
  generalize shN key 150 = k1 at *
  have hS := (SX.row (SX.nil ht.out) hv.out).box hM
  clear ht hv
  have hsh := Lib.hid short03_any
  have hnw := Lib.hid (fun w ht => snew_any k1 w (by omega) ht)
  have hBl := kb_len (bysN k1)
  have hBt := Lib.hid (kb_lt (bysN_lt k1))
  have hro := Lib.hid (fun (T : ByteArray) w (h : T.size ≤ 1000000) => rof_any k1 T w (by omega) h)
  generalize kb (bysN k1) = B at *
  have Hf : Hid (0 < L.length → ∃ g off, pv = some ⟨g, off, none⟩ ∧ ∀ i (hi : i < L.length), w.cell? ⟨g, off + i, none⟩ = some (.string L[i])) := Lib.hid hf
  clear hf
  go_enter Tryd.func10, Tryd.ntmps10
  go_upto_region 1 with (fail)
  change Code.wp _ _ _ _ (w.alloc (.cells (U8s M).toArray 26))
  generalize w.alloc (.cells (U8s M).toArray 26) = W at *
  generalize hgm : w.heap.size = gm at *
  have Hgm := Lib.hid hgm
  clear hgm
  go_wp2_with fail
  refine (awake03_any _ hS.tabs).mono ?_
  rintro e w1 ⟨rfl, hb1⟩
  replace hS := hS.on hb1
  clear hb1
  go_wp2_with fail
  refine (hsh_k1.out _).mono ?_
  rintro e w' ⟨rfl, rfl⟩
  go_wp2_with fail
  refine (hnw.out _ hS.tabs).mono ?_
  rintro e w2 ⟨g, rfl, _, kg, hb2⟩
  replace hS := SX.with (hS.on hb2) (q := some ⟨g, 0, none⟩) (C := B) (.inr ⟨_, rfl, kg⟩)
  clear hb2 kg hnw
  generalize hbase : w2.heap.size = base at *
  have hS0 := hS
  go_wp2_with fail
  go_loopw [9, 10, 11, 12] (fun a m i _ wi => ∃ k : Nat, k ≤ L.length ∧ k ≤ 5 ∧ i = .int .i64 (k : Int) ∧ (∃ T : ByteArray, a = .string T ∧ bysN T = allB (pcs L k) ∧ T.size ≤ 60 * k) ∧ own2 wi base 9 m k ((pcs L k).map Value.string) ∧ Below base w2 wi) (fun _ _ i _ _ => 5 - (intOf i).toNat)
  case atStart => exact ⟨0, by omega, by omega, rfl, ⟨⟨#[]⟩, rfl, rfl, by decide⟩, own2.nil _ _ _, by rw [← hbase]; exact BW_refl w2⟩
  case round =>
    clear hS
    obtain ⟨k, hk, hk5, rfl, ⟨T, rfl, hT, hTs⟩, hm, hb⟩ := hrel
    have hz := hb.size
    rw [hbase] at hz
    by_cases hkt : k < L.length ∧ k < 5
    · have hk1 : (k : Int) < (L.length : Int) := by omega
      have hk2 : (k : Int) < 5 := by omega
      obtain ⟨g9, off, rfl, hc⟩ := Hf.out (by omega)
      have hS1 := hS0.on (w' := wr) (by rw [hbase]; exact hb)
      have hcell : wr.cell? ⟨g9, off + k, none⟩ = some (.string L[k]) := by
        have h9 := BW_cell hS1.below (hc k (by omega))
        exact h9
      have hsu := pcs_succ L k hkt.1
      have hs60 := shN_size L[k] 60
      have hshk := Lib.hid (hsh.out L[k] 60)
      obtain ⟨T2, hT2, hadd⟩ := cat_big T (shN L[k] 60) (by omega)
      have hT2s : T2.size ≤ 60 * (k + 1) := by rw [← bysN_len, hT2, List.length_append, bysN_len, bysN_len]; omega
      have HT2 : Hid (bysN T2 = allB (pcs L (k + 1))) := Lib.hid (by rw [hsu, allB_app, ← hT, hT2])
      have Hsu : Hid ((pcs L (k + 1)).map Value.string = (pcs L k).map Value.string ++ [.string (shN L[k] 60)]) := Lib.hid (by rw [hsu, List.map_append]; rfl)
      clear hc hT hsu hT2 hS1
      generalize shN L[k] 60 = sk at *
      generalize L[k] = lk at *
      go_wp2_with fail
      refine (hshk.out _).mono ?_
      rintro e w' ⟨rfl, rfl⟩
      go_upto_region 13 with (at_builtin; go_must (refine @wpList_push2 Tryd.prog _ _ _ _ _ wr rfl _ _ 33 rfl base 9 i0 (.string ⟨#[]⟩) 16 Tryd.underlying33 hi0 iz0 iz1 iz2 rfl u10 k ((pcs L k).map Value.string) ?q1 hm (.string sk) wr.heap.size ?q2 rfl rfl ?q3 ?q4 ?q5 ?_; (case q1 => rfl); (case q2 => rfl); (case q3 => unfold maxLen; omega); (case q4 => omega); (case q5 => omega)); intro a2 w3 ha2 hg2 hn2)
      have hb3 := hb.grown hg2 (by omega) (own2.le hm)
      rw [← Hsu.out] at ha2
      go_wp2_with fail
      go_roundw
      case rel => exact ⟨k + 1, by omega, by omega, by go_num, ⟨T2, rfl, HT2.out, hT2s⟩, ha2, hb3⟩
      case measure => simp [intOf]; omega
    · have hms := own2_strs hm (pcs_len L k hk).symm
      have hS := SX.row (hS0.on (w' := wr) (by rw [hbase]; exact hb)) hms
      have hls : (pcs L k).length ≤ 5 := by rw [pcs_len L k hk]; exact hk5
      have hT1 : (allB (pcs L k)).length ≤ 300 := by rw [← hT, bysN_len]; omega
      have hse := Lib.hid (fun v w (hp : Hid (SlrAt (some ⟨g, 0, none⟩) B w)) hv ht => sseal_any (some ⟨g, 0, none⟩) B v (pcs L k) w hBl hBt hp hv ht (by omega) (by omega))
      have hck := Lib.hid (fun v w M hM (hp : Hid (SlrAt (some ⟨g, 0, none⟩) B w)) hv ht => scheck_any (some ⟨g, 0, none⟩) B M v (pcs L k) w hBl hBt hM hp hv ht (by omega) (by omega))
      have hse0 := Lib.hid (fun v w (hp : Hid (SlrAt (some ⟨g, 0, none⟩) B w)) hv ht => sseal_any (some ⟨g, 0, none⟩) B v [] w hBl hBt hp hv ht (by decide) (by decide))
      have hnil := Lib.hid (fun w => (⟨none, 0, rfl, fun h => by simp at h⟩ : Strs w (.slice none 0 0) []))
      have hro1 := Lib.hid (fun w => hro.out T w (by omega))
      have hro0 := Lib.hid (fun w => hro.out ⟨#[]⟩ w (by decide))
      rw [hT] at hro1
      have hA := mac_IsH B (allB (pcs L k))
      have hZ := mac_IsH B []
      rw [show allB [] = [] from rfl] at hse0
      rw [show bysN ⟨#[]⟩ = [] from rfl] at hro0
      clear hT1 hls hms hro hT hsh hbase hb hz hm Hf hS0
      generalize mac B (allB (pcs L k)) = A at *
      generalize mac B [] = Z at *
      generalize pcs L k = Ls at *
      have hcases : (((k : Int) < (L.length : Int)) ∧ ¬ (k : Int) < 5) ∨ ¬ (k : Int) < (L.length : Int) := by omega
      clear hkt
      have hend : ∀ (P : Prop), P → P := fun _ h => h
      rcases hcases with ⟨hc1, hc2⟩ | hc1
      all_goals
        go_wp2_with fail
        refine (hro1.out _).mono ?_
        rintro e w4 ⟨rfl, hb4⟩
        replace hS := hS.on hb4
        clear hb4
        have hth := Lib.hid (hash_there w4 hA)
        have hsz := Lib.hid (hash_sz hA)
        have hone := Lib.hid (hash_one A)
        replace hS := SX.put hS hA
        go_upto_region 15 with (refine wpList_store_mid rfl 26 _ _ rfl w4.heap.size 0 (U8s A).toArray rfl rfl hth.out hsz.out hone.out ?_)
        change Code.wp _ _ _ _ ((w4.alloc (.cells (U8s z32).toArray 26)).setCells w4.heap.size 0 (U8s A))
        clear hth hsz hone
        generalize (w4.alloc (.cells (U8s z32).toArray 26)).setCells w4.heap.size 0 (U8s A) = V at *
        generalize w4.heap.size = ga at *
        have hszA := Lib.hid (hash_szl hA)
        have hszM := Lib.hid (hash_szl hM)
        have hq1 := hash_eq_rfl hA
        have hq2 := hash_eq hM hA
        have hq0 := hash_eq_rfl hZ
        have hq3 : Hid (decide (A = M) = decide (M = A)) := Lib.hid (by simp only [eq_comm])
        refine wp_region_held_drew (S := SX w [(ga, A), (gm, M)] (some ⟨g, 0, none⟩) B u10 Ls) (by kernel_rfl) hS.drew (fun hH0 => ?_)
        refine wpAnyH_take (i := 0) (v := .bool true) rfl (by kernel_rfl) (by kernel_rfl) (by kernel_rfl) (fun _ _ _ h => h) (yk_move (by kernel_rfl) _ rfl _ (by kernel_rfl)) hH0 ?_
        refine wpAnyH_take (i := 1) (v := .bool true) rfl (by kernel_rfl) (by kernel_rfl) (by kernel_rfl) (fun _ _ _ h => h) (yk_move (by kernel_rfl) _ rfl _ (by kernel_rfl)) hH0 ?_
        refine wpAnyH_take (i := 2) (v := .pointer (some ⟨g, 0, none⟩)) rfl (by kernel_rfl) (by kernel_rfl) (by kernel_rfl) (fun _ _ _ h => h) (yk_move (by kernel_rfl) _ rfl _ (by kernel_rfl)) hH0 ?_
        refine wpAnyH_take (i := 3) (v := u10) rfl (by kernel_rfl) (by kernel_rfl) (by kernel_rfl) (fun _ _ _ h => h) (yk_move (by kernel_rfl) _ rfl _ (by kernel_rfl)) hH0 ?_
        refine wpAnyH_take (i := 5) (v := .agg (U8s A).toArray) rfl (by kernel_rfl) (by kernel_rfl) (by kernel_rfl) (fun _ _ _ h => h) (yieldsIf_load_mid (by kernel_rfl) _ _ rfl ga 0 (by kernel_rfl) (U8s A) _ (fun _ h => SX.at h (.head _)) Tryd.underlying26 rfl hszA.out) hH0 ?_
        refine wpAnyH_ready (rs := [4]) (by kernel_rfl) (by simp) ?_
        refine AllReadyH.cons rfl (fun K hK => ?_) AllReadyH.nil
        go_simp
        go_at_call 35
        refine (hse.out _ _ (SX.slr hH0) (SX.strs hH0) (SX.tabs hH0)).mono ?_
        rintro e w4 ⟨rfl, hd1⟩
        go_wp2_with fail
        refine hK.out _ _ (SX.on hH0 hd1) (fun hH1 => ?_)
        clear hK K
        refine wpAnyH_take (i := 6) (v := .bool true) rfl (by kernel_rfl) (by kernel_rfl) (by kernel_rfl) (fun _ _ _ h => h) (yk_bin (by kernel_rfl) _ _ _ _ _ rfl (.agg (U8s A).toArray) (.agg (U8s A).toArray) (by kernel_rfl) (by kernel_rfl) _ (fun w' hw' => hq1 _ _ w')) hH1 ?_
        refine wpAnyH_take (i := 7) (v := .bool true) rfl (by kernel_rfl) (by kernel_rfl) (by kernel_rfl) (fun _ _ _ h => h) (yk_pick (by kernel_rfl) _ _ _ rfl true (by kernel_rfl) _ (by kernel_rfl)) hH1 ?_
        refine wpAnyH_take (i := 8) (v := .bool true) rfl (by kernel_rfl) (by kernel_rfl) (by kernel_rfl) (fun _ _ _ h => h) (yk_move (by kernel_rfl) _ rfl _ (by kernel_rfl)) hH1 ?_
        refine wpAnyH_take (i := 9) (v := .pointer (some ⟨g, 0, none⟩)) rfl (by kernel_rfl) (by kernel_rfl) (by kernel_rfl) (fun _ _ _ h => h) (yk_move (by kernel_rfl) _ rfl _ (by kernel_rfl)) hH1 ?_
        refine wpAnyH_take (i := 10) (v := u10) rfl (by kernel_rfl) (by kernel_rfl) (by kernel_rfl) (fun _ _ _ h => h) (yk_move (by kernel_rfl) _ rfl _ (by kernel_rfl)) hH1 ?_
        refine wpAnyH_take (i := 12) (v := .agg (U8s A).toArray) rfl (by kernel_rfl) (by kernel_rfl) (by kernel_rfl) (fun _ _ _ h => h) (yieldsIf_load_mid (by kernel_rfl) _ _ rfl ga 0 (by kernel_rfl) (U8s A) _ (fun _ h => SX.at h (.head _)) Tryd.underlying26 rfl hszA.out) hH1 ?_
        refine wpAnyH_ready (rs := [11]) (by kernel_rfl) (by simp) ?_
        refine AllReadyH.cons rfl (fun K hK => ?_) AllReadyH.nil
        go_simp
        go_at_call 35
        refine (hse.out _ _ (SX.slr hH1) (SX.strs hH1) (SX.tabs hH1)).mono ?_
        rintro e w11 ⟨rfl, hd2⟩
        go_wp2_with fail
        refine hK.out _ _ (SX.on hH1 hd2) (fun hH2 => ?_)
        clear hK K
        refine wpAnyH_take (i := 13) (v := .bool true) rfl (by kernel_rfl) (by kernel_rfl) (by kernel_rfl) (fun _ _ _ h => h) (yk_bin (by kernel_rfl) _ _ _ _ _ rfl (.agg (U8s A).toArray) (.agg (U8s A).toArray) (by kernel_rfl) (by kernel_rfl) _ (fun w' hw' => hq1 _ _ w')) hH2 ?_
        refine wpAnyH_take (i := 14) (v := .bool true) rfl (by kernel_rfl) (by kernel_rfl) (by kernel_rfl) (fun _ _ _ h => h) (yk_pick (by kernel_rfl) _ _ _ rfl true (by kernel_rfl) _ (by kernel_rfl)) hH2 ?_
        refine wpAnyH_take (i := 15) (v := .bool true) rfl (by kernel_rfl) (by kernel_rfl) (by kernel_rfl) (fun _ _ _ h => h) (yk_move (by kernel_rfl) _ rfl _ (by kernel_rfl)) hH2 ?_
        refine wpAnyH_take (i := 16) (v := .pointer (some ⟨g, 0, none⟩)) rfl (by kernel_rfl) (by kernel_rfl) (by kernel_rfl) (fun _ _ _ h => h) (yk_move (by kernel_rfl) _ rfl _ (by kernel_rfl)) hH2 ?_
        refine wpAnyH_take (i := 17) (v := .agg (U8s A).toArray) rfl (by kernel_rfl) (by kernel_rfl) (by kernel_rfl) (fun _ _ _ h => h) (yieldsIf_load_mid (by kernel_rfl) _ _ rfl ga 0 (by kernel_rfl) (U8s A) _ (fun _ h => SX.at h (.head _)) Tryd.underlying26 rfl hszA.out) hH2 ?_
        refine wpAnyH_take (i := 18) (v := u10) rfl (by kernel_rfl) (by kernel_rfl) (by kernel_rfl) (fun _ _ _ h => h) (yk_move (by kernel_rfl) _ rfl _ (by kernel_rfl)) hH2 ?_
        refine wpAnyH_ready (rs := [19]) (by kernel_rfl) (by simp) ?_
        refine AllReadyH.cons rfl (fun K hK => ?_) AllReadyH.nil
        go_simp
        go_at_call 36
        refine (hck.out _ _ A hA (SX.slr hH2) (SX.strs hH2) (SX.tabs hH2)).mono ?_
        rintro e w19 ⟨rfl, hd3⟩
        rw [show decide (A = A) = true from decide_eq_true rfl]
        go_wp2_with fail
        refine hK.out _ _ (SX.on hH2 hd3) (fun hH3 => ?_)
        clear hK K
        refine wpAnyH_take (i := 20) (v := .bool true) rfl (by kernel_rfl) (by kernel_rfl) (by kernel_rfl) (fun _ _ _ h => h) (yk_pick (by kernel_rfl) _ _ _ rfl true (by kernel_rfl) _ (by kernel_rfl)) hH3 ?_
        refine wpAnyH_take (i := 21) (v := .bool true) rfl (by kernel_rfl) (by kernel_rfl) (by kernel_rfl) (fun _ _ _ h => h) (yk_move (by kernel_rfl) _ rfl _ (by kernel_rfl)) hH3 ?_
        refine wpAnyH_take (i := 22) (v := .pointer (some ⟨g, 0, none⟩)) rfl (by kernel_rfl) (by kernel_rfl) (by kernel_rfl) (fun _ _ _ h => h) (yk_move (by kernel_rfl) _ rfl _ (by kernel_rfl)) hH3 ?_
        refine wpAnyH_take (i := 23) (v := .agg (U8s M).toArray) rfl (by kernel_rfl) (by kernel_rfl) (by kernel_rfl) (fun _ _ _ h => h) (yieldsIf_load_mid (by kernel_rfl) _ _ rfl gm 0 (by kernel_rfl) (U8s M) _ (fun _ h => SX.at h (.tail _ (.head _))) Tryd.underlying26 rfl hszM.out) hH3 ?_
        refine wpAnyH_take (i := 24) (v := u10) rfl (by kernel_rfl) (by kernel_rfl) (by kernel_rfl) (fun _ _ _ h => h) (yk_move (by kernel_rfl) _ rfl _ (by kernel_rfl)) hH3 ?_
        refine wpAnyH_take (i := 26) (v := .agg (U8s M).toArray) rfl (by kernel_rfl) (by kernel_rfl) (by kernel_rfl) (fun _ _ _ h => h) (yieldsIf_load_mid (by kernel_rfl) _ _ rfl gm 0 (by kernel_rfl) (U8s M) _ (fun _ h => SX.at h (.tail _ (.head _))) Tryd.underlying26 rfl hszM.out) hH3 ?_
        refine wpAnyH_take (i := 27) (v := .agg (U8s A).toArray) rfl (by kernel_rfl) (by kernel_rfl) (by kernel_rfl) (fun _ _ _ h => h) (yieldsIf_load_mid (by kernel_rfl) _ _ rfl ga 0 (by kernel_rfl) (U8s A) _ (fun _ h => SX.at h (.head _)) Tryd.underlying26 rfl hszA.out) hH3 ?_
        refine wpAnyH_take (i := 28) (v := .bool (decide (M = A))) rfl (by kernel_rfl) (by kernel_rfl) (by kernel_rfl) (fun _ _ _ h => h) (yk_bin (by kernel_rfl) _ _ _ _ _ rfl (.agg (U8s M).toArray) (.agg (U8s A).toArray) (by kernel_rfl) (by kernel_rfl) _ (fun w' hw' => hq2 _ _ w')) hH3 ?_
        refine wpAnyH_ready (rs := [25]) (by kernel_rfl) (by simp) ?_
        refine AllReadyH.cons rfl (fun K hK => ?_) AllReadyH.nil
        go_simp
        go_at_call 36
        refine (hck.out _ _ M hM (SX.slr hH3) (SX.strs hH3) (SX.tabs hH3)).mono ?_
        rintro e w25 ⟨rfl, hd4⟩
        go_wp2_with fail
        refine hK.out _ _ (SX.on hH3 hd4) (fun hH4 => ?_)
        clear hK K
        refine wpAnyH_take (i := 29) (v := .bool true) rfl (by kernel_rfl) (by kernel_rfl) (by kernel_rfl) (fun _ _ _ h => h) (yk_bin (by kernel_rfl) _ _ _ _ _ rfl (.bool (decide (A = M))) (.bool (decide (M = A))) (by kernel_rfl) (by kernel_rfl) _ (fun w' hw' => bool_eq _ _ _ _ hq3.out w')) hH4 ?_
        refine wpAnyH_take (i := 30) (v := .bool true) rfl (by kernel_rfl) (by kernel_rfl) (by kernel_rfl) (fun _ _ _ h => h) (yk_pick (by kernel_rfl) _ _ _ rfl true (by kernel_rfl) _ (by kernel_rfl)) hH4 ?_
        refine wpAnyH_take (i := 31) (v := .bool true) rfl (by kernel_rfl) (by kernel_rfl) (by kernel_rfl) (fun _ _ _ h => h) (yk_move (by kernel_rfl) _ rfl _ (by kernel_rfl)) hH4 ?_
        refine wpAnyH_take (i := 32) (v := .pointer (some ⟨g, 0, none⟩)) rfl (by kernel_rfl) (by kernel_rfl) (by kernel_rfl) (fun _ _ _ h => h) (yk_move (by kernel_rfl) _ rfl _ (by kernel_rfl)) hH4 ?_
        refine wpAnyH_take (i := 34) (v := .string k1) rfl (by kernel_rfl) (by kernel_rfl) (by kernel_rfl) (fun _ _ _ h => h) (yk_move (by kernel_rfl) _ rfl _ (by kernel_rfl)) hH4 ?_
        refine wpAnyH_ready (rs := [33]) (by kernel_rfl) (by simp) ?_
        refine AllReadyH.cons rfl (fun K hK => ?_) AllReadyH.nil
        go_simp
        go_at_call 35
        refine (hse0.out _ _ (SX.slr hH4) (Lib.hid (hnil.out _)) (SX.tabs hH4)).mono ?_
        rintro e w33 ⟨rfl, hd5⟩
        go_wp2_with fail
        refine hK.out _ _ (SX.on hH4 hd5) (fun hH5 => ?_)
        clear hK K
        refine wpAnyH_ready (rs := [35]) (by kernel_rfl) (by simp) ?_
        refine AllReadyH.cons rfl (fun K hK => ?_) AllReadyH.nil
        go_simp
        go_at_call 31
        refine (hro0.out _).mono ?_
        rintro e w35 ⟨rfl, hd6⟩
        go_wp2_with fail
        refine hK.out _ _ (SX.on hH5 hd6) (fun hH6 => ?_)
        clear hK K
        refine wpAnyH_take (i := 36) (v := .bool true) rfl (by kernel_rfl) (by kernel_rfl) (by kernel_rfl) (fun _ _ _ h => h) (yk_bin (by kernel_rfl) _ _ _ _ _ rfl (.agg (U8s Z).toArray) (.agg (U8s Z).toArray) (by kernel_rfl) (by kernel_rfl) _ (fun w' hw' => hq0 _ _ w')) hH6 ?_
        refine wpAnyH_take (i := 37) (v := .bool true) rfl (by kernel_rfl) (by kernel_rfl) (by kernel_rfl) (fun _ _ _ h => h) (yk_pick (by kernel_rfl) _ _ _ rfl true (by kernel_rfl) _ (by kernel_rfl)) hH6 ?_
        refine wpAnyH_take (i := 38) (v := .bool true) rfl (by kernel_rfl) (by kernel_rfl) (by kernel_rfl) (fun _ _ _ h => h) (yk_assign (by kernel_rfl) _ rfl _ (by kernel_rfl)) hH6 ?_
        refine wpAnyH_done (by kernel_rfl) ?_ _
        have hbf := SX.below hH6
        go_wp2_with fail
        go_ret
        exact ⟨rfl, by rw [Hgm.out]; rw [Hgm.out] at hbf; exact hbf⟩
end Go.Proofs.YtidceockbjeaoaaDoor

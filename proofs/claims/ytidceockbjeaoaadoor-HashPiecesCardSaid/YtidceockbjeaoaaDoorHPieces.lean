/- The walk of the law HashPieces. -/
import Derived.Test.YtidceockbjeaoaaDoorM6
import Derived.Test.YtidceockbjeaoaaDoorSX
import Derived.Deep.DeepCutAuto
namespace Go.Proofs.YtidceockbjeaoaaDoor
open Go.RowKit
attribute [local go_sem ↓] Go.wp_at_zero Go.wp_at_succ
def pcs2 (L : List ByteArray) (k : Nat) : List ByteArray := (L.take k).map fun x => shN x 150
theorem pcs2_succ (L : List ByteArray) (k : Nat) (h : k < L.length) : pcs2 L (k + 1) = pcs2 L k ++ [shN L[k] 150] := by
  unfold pcs2
  rw [List.take_succ_eq_append_getElem h, List.map_append]
  rfl
theorem allB_app2 (L : List ByteArray) (s : ByteArray) : allB (L ++ [s]) = allB L ++ bysN s := by
  unfold allB
  rw [List.flatMap_append]
  simp
theorem HSt.drw {w : World} {g : Nat} {M : List Nat} (h : HSt KK BG w g M) : HSt KK BG w.drew g M := h.on (Below.refl _ _).drew
/-- What stands while pieces are written. -/
def PS (w0 : World) (gh gt : Nat) (gB gK cB cK : Nat) (M : List Nat) (w : World) : Prop :=
  HSt KK BG w gh M ∧ Blk w gt 38 #[.slice (some ⟨gB, 0, none⟩) 8 cB, .slice (some ⟨gK, 0, none⟩) 64 cK] ∧ (∀ i, i < 8 → w.cell? ⟨gB, i, none⟩ = some (.int .u32 (BG.getD i 0))) ∧ (∀ i, i < 64 → w.cell? ⟨gK, i, none⟩ = some (.int .u32 (KK.getD i 0))) ∧ Tabs w ∧ Below w0.heap.size w0 w
theorem PS.on {w0 w w' : World} {gh gt gB gK cB cK : Nat} {M : List Nat} (h : PS w0 gh gt gB gK cB cK M w) (hb : Below w.heap.size w w') : PS w0 gh gt gB gK cB cK M w' :=
  ⟨h.1.on hb, h.2.1.on hb, fun i hi => BW_cell hb (h.2.2.1 i hi), fun i hi => BW_cell hb (h.2.2.2.1 i hi), h.2.2.2.2.1.on hb, BW_on h.2.2.2.2.2 hb⟩
theorem PS.drew {w0 w : World} {gh gt gB gK cB cK : Nat} {M : List Nat} (h : PS w0 gh gt gB gK cB cK M w) : PS w0 gh gt gB gK cB cK M w.drew := h.on (Below.refl _ _).drew
theorem hash_neq_rfl {L : List Nat} (hL : IsH L) (x y : Operand) (w : World) : (do eqGuard .neq 26 x y (.agg (U8s L).toArray) (.agg (U8s L).toArray); binOp .neq 26 (.agg (U8s L).toArray) (.agg (U8s L).toArray) : Sem Value).run Tryd.prog w = .ok (.bool false) w := by
  have h := eq_hash L L hL hL w
  rw [decide_eq_true rfl] at h
  go_simp
set_option maxHeartbeats 4000000 in
set_option maxRecDepth 100000 in
theorem hpieces_any (v : Value) (L : List ByteArray) (w : World) (hv : Hid (Strs w v L)) (hL : L.length ≤ 9223372036854775807) (ht : Hid (Tabs w)) :
    Calls Tryd.prog 5 #[v] w fun e w' => e = .returned (.bool true) ∧ Below w.heap.size w w' := by
  obtain ⟨pv, cap, rfl, hf⟩ := hv.out
  have h1w := ht.out.lt
  have hsh := Lib.hid short02_any
  have Hf : Hid (0 < L.length → ∃ g off, pv = some ⟨g, off, none⟩ ∧ ∀ i (hi : i < L.length), w.cell? ⟨g, off + i, none⟩ = some (.string L[i])) := Lib.hid hf
  clear hf hv
  go_enter Tryd.func5, Tryd.ntmps5
  go_wp2_with fail
  refine (awake02_any _ ht).mono ?_
  rintro e w1 ⟨rfl, hb1⟩
  have hT1 := ht.out.on hb1
  go_wp2_with fail
  refine (new_any _ hT1).mono ?_
  rintro e w2 ⟨rfl, hw2⟩
  have hs2 : HSt KK BG w2 w1.heap.size [] := by rw [hw2]; exact HSt.new _
  have hT2 : Tabs w2 := by rw [hw2]; exact hT1.on (BW_alloc (BW_refl _) _)
  have hb2 : Below w.heap.size w w2 := by rw [hw2]; exact BW_alloc hb1 _
  have hgh : Hid (w.heap.size ≤ w1.heap.size) := Lib.hid hb1.size
  have h1gh : Hid (1 < w1.heap.size) := Lib.hid (Nat.lt_of_lt_of_le h1w hb1.size)
  clear hw2 hT1 hb1 ht
  generalize w1.heap.size = gh at *
  go_wp2_with fail
  refine (rmade_fresh _).mono ?_
  rintro e w3 ⟨gB, gK, cB, cK, rfl, hB, hK, hb3, hfB, hfK⟩
  have hs3 := hs2.on hb3
  have hT3 := hT2.on hb3
  have hbb3 := BW_on hb2 hb3
  have kt2 := blk1 w3 38 #[.slice (some ⟨gB, 0, none⟩) 8 cB, .slice (some ⟨gK, 0, none⟩) 64 cK]
  have kt := blk1 w3 38 #[.slice none 0 0, .slice none 0 0]
  have c0 := kt.cell 0
  have c1 := kt.cell 1
  have q0 := kt.free 0
  have q1 := kt.free 1
  have hbt : Below w3.heap.size w3 (w3.alloc (.cells #[.slice (some ⟨gB, 0, none⟩) 8 cB, .slice (some ⟨gK, 0, none⟩) 64 cK] 38)) := BW_alloc (BW_refl w3) _
  have hghs : Hid (gh < w3.heap.size) := Lib.hid (by
    obtain ⟨_, _, _, _, kh⟩ := hs3
    exact kh.lt)
  have hgBK : Hid (gB < w3.heap.size ∧ gK < w3.heap.size) := Lib.hid ⟨World.block_lt_of_cell? _ _ (hB 0 (by decide)), World.block_lt_of_cell? _ _ (hK 0 (by decide))⟩
  have hgne : Hid (gB ≠ gh ∧ gK ≠ gh) := Lib.hid (by
    obtain ⟨_, _, _, _, kh⟩ := hs2
    have h9 := kh.lt
    exact ⟨by omega, by omega⟩)
  have hPS : PS w gh w3.heap.size gB gK cB cK (allB (pcs2 L 0)) (w3.alloc (.cells #[.slice (some ⟨gB, 0, none⟩) 8 cB, .slice (some ⟨gK, 0, none⟩) 64 cK] 38)) :=
    ⟨hs3.on hbt, kt2, fun i hi => BW_cell hbt (hB i hi), fun i hi => BW_cell hbt (hK i hi), hT3.on hbt, BW_on hbb3 hbt⟩
  clear hs2 hT2 hb2 hB hK hb3 hs3 hT3 hbb3 kt kt2 hbt
  go_upto_region 6 with (fail)
  change Code.wp _ _ _ _ (w3.alloc (.cells #[.slice (some ⟨gB, 0, none⟩) 8 cB, .slice (some ⟨gK, 0, none⟩) 64 cK] 38))
  clear c0 c1 q0 q1
  generalize w3.alloc (.cells #[.slice (some ⟨gB, 0, none⟩) 8 cB, .slice (some ⟨gK, 0, none⟩) 64 cK] 38) = V at *
  generalize w3.heap.size = gt at *
  go_wp2_with fail
  go_loopw [6, 7, 8, 9] (fun a i _ _ wi => ∃ k : Nat, k ≤ L.length ∧ k ≤ 12 ∧ i = .int .i64 (k : Int) ∧ (∃ T : ByteArray, a = .string T ∧ bysN T = allB (pcs2 L k) ∧ T.size ≤ 150 * k) ∧ PS w gh gt gB gK cB cK (allB (pcs2 L k)) wi) (fun _ i _ _ _ => 12 - (intOf i).toNat)
  case atStart => exact ⟨0, by omega, by omega, rfl, ⟨⟨#[]⟩, rfl, rfl, by decide⟩, hPS⟩
  case round =>
    clear hPS
    obtain ⟨k, hk, hk12, rfl, ⟨T, rfl, hT, hTs⟩, hS⟩ := hrel
    by_cases hkt : k < L.length ∧ k < 12
    · have hk1 : (k : Int) < (L.length : Int) := by omega
      have hk2 : (k : Int) < 12 := by omega
      obtain ⟨g9, off, rfl, hc⟩ := Hf.out (by omega)
      have hcell := BW_cell hS.2.2.2.2.2 (hc k hkt.1)
      have hsu := pcs2_succ L k hkt.1
      have hs150 := shN_size L[k] 150
      have hshk := Lib.hid (hsh.out L[k] 150)
      obtain ⟨T2, hT2, hadd'⟩ := cat_big T (shN L[k] 150) (by omega)
      have hadd := hadd'
      have hT2s : T2.size ≤ 150 * (k + 1) := by rw [← bysN_len, hT2, List.length_append, bysN_len, bysN_len]; omega
      have HM : allB (pcs2 L (k + 1)) = allB (pcs2 L k) ++ bysN (shN L[k] 150) := by rw [hsu, allB_app2]
      have HT2 : bysN T2 = allB (pcs2 L (k + 1)) := by rw [HM, ← hT, hT2]
      have hMl : (allB (pcs2 L k)).length ≤ 1800 := by rw [← hT, bysN_len]; omega
      generalize hM2 : allB (pcs2 L (k + 1)) = M2 at *
      have HM2 := Bx.mk hM2
      clear hM2
      generalize allB (pcs2 L k) = M1 at *
      clear hc hsu hT2 hadd'
      generalize shN L[k] 150 = sk at *
      generalize L[k] = lk at *
      go_wp2_with fail
      refine (hshk.out _).mono ?_
      rintro e w' ⟨rfl, rfl⟩
      go_wp2_with fail
      refine (write_any gh KK BG M1 sk _ (Lib.hid rfl) (Lib.hid hS.1) (by omega) h1gh.out (Lib.hid hS.2.2.2.2.1.2)).mono ?_
      rintro e w5 ⟨rfl, hs5, hg5⟩
      rw [← HM] at hs5
      have hS5 : PS w gh gt gB gK cB cK M2 w5 := ⟨hs5, hS.2.1.grown hg5 (by have h9 := hghs.out; omega), fun i hi => hg5.cell (hS.2.2.1 i hi) (fun e => hgne.out.1 (Option.some.inj e)), fun i hi => hg5.cell (hS.2.2.2.1 i hi) (fun e => hgne.out.2 (Option.some.inj e)), hS.2.2.2.2.1.grown hg5 h1gh.out, Below.grownA hS.2.2.2.2.2 hg5 hgh.out⟩
      clear hs5 hg5 hS hcell
      have HT2h := Lib.hid HT2
      have hT2b : T2.size ≤ 1800 := by omega
      have hM2l : M2.length ≤ 1800 := by rw [← HT2, bysN_len]; omega
      have hlen2 : (M2.length : Int) = (T2.size : Int) := by rw [← HT2, bysN_len]
      have hX := sha_IsH M2
      have hsv := Bx.mk (show shaV M2 = .agg (U8s (sha M2)).toArray from rfl)
      have hrsv : Bx (shaV (bysN T2) = .agg (U8s (sha M2)).toArray) := Bx.mk (by rw [HT2]; rfl)
      clear HM HT2
      generalize sha M2 = X at *
      go_wp2_with fail
      refine (sum_any gh M2 _ (Lib.hid hS5.1) (Lib.hid hS5.2.2.2.2.1) (by omega)).mono ?_
      rw [hsv.out]
      rintro e w6 ⟨rfl, hb6⟩
      replace hS5 := hS5.on hb6
      have hth := Lib.hid (hash_there w6 hX)
      have hsz := Lib.hid (hash_sz hX)
      have hone := Lib.hid (hash_one X)
      have kx := setCells_all (blk1 w6 26 (U8s z32).toArray) (U8s X) (by rw [hash_len hX]; rfl)
      have hbx : Below w6.heap.size w6 ((w6.alloc (.cells (U8s z32).toArray 26)).setCells w6.heap.size 0 (U8s X)) := below_setCells _ _ _ (BW_alloc (BW_refl _) _) (Nat.le_refl _)
      replace hS5 := hS5.on hbx
      go_upto_region 14 with (refine wpList_store_mid rfl 26 _ _ rfl w6.heap.size 0 (U8s X).toArray rfl rfl hth.out hsz.out hone.out ?_)
      change Code.wp _ _ _ _ ((w6.alloc (.cells (U8s z32).toArray 26)).setCells w6.heap.size 0 (U8s X))
      clear hth hsz hone hbx hb6
      generalize (w6.alloc (.cells (U8s z32).toArray 26)).setCells w6.heap.size 0 (U8s X) = Y at *
      generalize w6.heap.size = gx at *
      have hszl := Lib.hid (hash_szl hX)
      have hS6 : PS w gh gt gB gK cB cK M2 Y.drew ∧ Y.drew.rangeAt gx 0 (U8s X) := ⟨hS5.drew, fun j v hj => by rw [Nat.zero_add, kx.drew.cell]; simpa using hj⟩
      clear hS5 kx
      have hqn := hash_neq_rfl hX
      refine wp_region_held_drew (S := fun w' => PS w gh gt gB gK cB cK M2 w' ∧ w'.rangeAt gx 0 (U8s X)) (by kernel_rfl) hS6 (fun hH0 => ?_)
      clear hS6
      refine wpAnyH_take (i := 0) (v := .pointer (some ⟨gh, 0, none⟩)) rfl (by kernel_rfl) (by kernel_rfl) (by kernel_rfl) (fun _ _ _ h => h) (yk_move (by kernel_rfl) _ rfl _ (by kernel_rfl)) hH0 ?_
      refine wpAnyH_take (i := 2) (v := .string T2) rfl (by kernel_rfl) (by kernel_rfl) (by kernel_rfl) (fun _ _ _ h => h) (yk_move (by kernel_rfl) _ rfl _ (by kernel_rfl)) hH0 ?_
      refine wpAnyH_take (i := 3) (v := .int .i64 (T2.size : Int)) rfl (by kernel_rfl) (by kernel_rfl) (by kernel_rfl) (fun _ _ _ h => h) (yk_len (by kernel_rfl) _ _ rfl (.string T2) (by kernel_rfl) _ (fun w' hw' => by go_simp)) hH0 ?_
      refine wpAnyH_ready (rs := [1]) (by kernel_rfl) (by simp) ?_
      refine AllReadyH.cons rfl (fun K hK => ?_) AllReadyH.nil
      go_simp
      go_at_call 25
      refine (len_any gh M2 _ hH0.1.1).mono ?_
      rintro e w1 ⟨rfl, rfl⟩
      rw [hlen2]
      go_wp2_with fail
      refine hK.out _ _ (hH0) (fun hH1 => ?_)
      clear hK K
      refine wpAnyH_take (i := 4) (v := .bool false) rfl (by kernel_rfl) (by kernel_rfl) (by kernel_rfl) (fun _ _ _ h => h) (yk_bin (by kernel_rfl) _ _ _ _ _ rfl (.int .i64 (T2.size : Int)) (.int .i64 (T2.size : Int)) (by kernel_rfl) (by kernel_rfl) _ (fun w' hw' => by go_simp)) hH1 ?_
      refine wpAnyH_take (i := 5) (v := .bool false) rfl (by kernel_rfl) (by kernel_rfl) (by kernel_rfl) (fun _ _ _ h => h) (yk_move (by kernel_rfl) _ rfl _ (by kernel_rfl)) hH1 ?_
      refine wpAnyH_take (i := 6) (v := .agg (U8s X).toArray) rfl (by kernel_rfl) (by kernel_rfl) (by kernel_rfl) (fun _ _ _ h => h) (yieldsIf_load_mid (by kernel_rfl) _ _ rfl gx 0 (by kernel_rfl) (U8s X) _ (fun _ h => h.2) Tryd.underlying26 rfl hszl.out) hH1 ?_
      refine wpAnyH_take (i := 7) (v := .agg #[.slice (some ⟨gB, 0, none⟩) 8 cB, .slice (some ⟨gK, 0, none⟩) 64 cK]) rfl (by kernel_rfl) (by kernel_rfl) (by kernel_rfl) (fun _ _ _ h => h) (Or.inl ⟨by rfl, by intro w9 hS9; have q0 := hS9.1.2.1.cell 0; have q1 := hS9.1.2.1.cell 1; go_simp⟩) hH1 ?_
      refine wpAnyH_take (i := 8) (v := .string T2) rfl (by kernel_rfl) (by kernel_rfl) (by kernel_rfl) (fun _ _ _ h => h) (yk_move (by kernel_rfl) _ rfl _ (by kernel_rfl)) hH1 ?_
      refine wpAnyH_ready (rs := [9]) (by kernel_rfl) (by simp) ?_
      refine AllReadyH.cons rfl (fun K hK => ?_) AllReadyH.nil
      go_simp
      go_at_call 26
      refine (rsum_any gB gK cB cK T2 _ (by omega) (Lib.hid hH1.1.2.2.1) (Lib.hid hH1.1.2.2.2.1)).mono ?_
      rintro e w9 ⟨rfl, hd1⟩
      rw [hrsv.out]
      go_wp2_with fail
      refine hK.out _ _ (⟨hH1.1.on hd1, range_on hH1.2 hd1⟩) (fun hH2 => ?_)
      clear hK K
      refine wpAnyH_take (i := 10) (v := .bool false) rfl (by kernel_rfl) (by kernel_rfl) (by kernel_rfl) (fun _ _ _ h => h) (yk_bin (by kernel_rfl) _ _ _ _ _ rfl (.agg (U8s X).toArray) (.agg (U8s X).toArray) (by kernel_rfl) (by kernel_rfl) _ (fun w' hw' => hqn _ _ w')) hH2 ?_
      refine wpAnyH_take (i := 11) (v := .bool false) rfl (by kernel_rfl) (by kernel_rfl) (by kernel_rfl) (fun _ _ _ h => h) (yk_pick (by kernel_rfl) _ _ _ rfl false (by kernel_rfl) _ (by kernel_rfl)) hH2 ?_
      refine wpAnyH_take (i := 12) (v := .bool false) rfl (by kernel_rfl) (by kernel_rfl) (by kernel_rfl) (fun _ _ _ h => h) (yk_move (by kernel_rfl) _ rfl _ (by kernel_rfl)) hH2 ?_
      refine wpAnyH_take (i := 13) (v := .pointer (some ⟨gh, 0, none⟩)) rfl (by kernel_rfl) (by kernel_rfl) (by kernel_rfl) (fun _ _ _ h => h) (yk_move (by kernel_rfl) _ rfl _ (by kernel_rfl)) hH2 ?_
      refine wpAnyH_take (i := 15) (v := .agg (U8s X).toArray) rfl (by kernel_rfl) (by kernel_rfl) (by kernel_rfl) (fun _ _ _ h => h) (yieldsIf_load_mid (by kernel_rfl) _ _ rfl gx 0 (by kernel_rfl) (U8s X) _ (fun _ h => h.2) Tryd.underlying26 rfl hszl.out) hH2 ?_
      refine wpAnyH_ready (rs := [14]) (by kernel_rfl) (by simp) ?_
      refine AllReadyH.cons rfl (fun K hK => ?_) AllReadyH.nil
      go_simp
      go_at_call 24
      refine (sum_any gh M2 _ (Lib.hid hH2.1.1) (Lib.hid hH2.1.2.2.2.2.1) (by omega)).mono ?_
      rintro e w14 ⟨rfl, hd2⟩
      rw [hsv.out]
      go_wp2_with fail
      refine hK.out _ _ (⟨hH2.1.on hd2, range_on hH2.2 hd2⟩) (fun hH3 => ?_)
      clear hK K
      refine wpAnyH_take (i := 16) (v := .bool false) rfl (by kernel_rfl) (by kernel_rfl) (by kernel_rfl) (fun _ _ _ h => h) (yk_bin (by kernel_rfl) _ _ _ _ _ rfl (.agg (U8s X).toArray) (.agg (U8s X).toArray) (by kernel_rfl) (by kernel_rfl) _ (fun w' hw' => hqn _ _ w')) hH3 ?_
      refine wpAnyH_take (i := 17) (v := .bool false) rfl (by kernel_rfl) (by kernel_rfl) (by kernel_rfl) (fun _ _ _ h => h) (yk_pick (by kernel_rfl) _ _ _ rfl false (by kernel_rfl) _ (by kernel_rfl)) hH3 ?_
      refine wpAnyH_done (by kernel_rfl) ?_ _
      have hSf := hH3.1
      go_wp2_with fail
      go_roundw
      case rel => exact ⟨k + 1, by omega, by omega, by go_num, ⟨T2, rfl, by rw [HM2.out]; exact HT2h.out, hT2s⟩, by rw [HM2.out]; exact hSf⟩
      case measure => simp [intOf]; omega
    · have hMl : (allB (pcs2 L k)).length ≤ 1800 := by rw [← hT, bysN_len]; omega
      have hTb : T.size ≤ 1800 := by omega
      have hallT : allB [T] = allB (pcs2 L k) := by
        show bysN T ++ [] = _
        rw [List.append_nil, hT]
      generalize allB (pcs2 L k) = M1 at *
      have hX := sha_IsH M1
      have hsv := Bx.mk (show shaV M1 = .agg (U8s (sha M1)).toArray from rfl)
      generalize sha M1 = X at *
      have hqq := hash_eq_rfl hX
      have hqe := eq_hash _ _ hX hX
      have hcases : (((k : Int) < (L.length : Int)) ∧ ¬ (k : Int) < 12) ∨ ¬ (k : Int) < (L.length : Int) := by omega
      clear hkt hT Hf
      rcases hcases with ⟨hc1, hc2⟩ | hc1
      all_goals
        go_wp2_with fail
        refine (sum_any gh M1 _ (Lib.hid hS.1) (Lib.hid hS.2.2.2.2.1) (by omega)).mono ?_
        rw [hsv.out]
        rintro e w6 ⟨rfl, hb6⟩
        replace hS := hS.on hb6
        go_wp2_with fail
        refine (hof_any _ [T] _ (Lib.hid (strs1 _ _)) (Lib.hid (hS.2.2.2.2.1.on (BW_alloc (BW_refl _) _))) (by rw [hallT]; omega) (by show 1 ≤ 9223372036854775807; decide)).mono ?_
        rw [hallT, hsv.out]
        rintro e w7 ⟨rfl, hb7⟩
        have hbf := BW_on (BW_alloc hS.2.2.2.2.2 (.cells #[.string T] 9)) hb7
        go_wp2_with fail
        go_ret
        exact ⟨by simp, hbf⟩
end Go.Proofs.YtidceockbjeaoaaDoor

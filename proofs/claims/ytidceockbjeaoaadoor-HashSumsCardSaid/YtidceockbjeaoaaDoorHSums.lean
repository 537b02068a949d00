/- The document's answer by the tables as the words say; the walk of the law HashSums. -/
import Derived.Test.YtidceockbjeaoaaDoorM6
import Derived.Deep.DeepCutAuto
namespace Go.Proofs.YtidceockbjeaoaaDoor
open Go.RowKit
attribute [local go_sem ↓] Go.wp_at_zero Go.wp_at_succ
set_option maxHeartbeats 4000000 in
set_option maxRecDepth 100000 in
theorem rsumof_any (t : ByteArray) (w : World) (hsz : t.size ≤ 4398046511104) :
    Calls Tryd.prog 18 #[.string t] w fun e w' => e = .returned (shaV (bysN t)) ∧ Below w.heap.size w w' := by
  go_enter Tryd.func18, Tryd.ntmps18
  have kr := blk1 w 26 (U8s z32).toArray
  have hb := BW_alloc (BW_refl w) (.cells (U8s z32).toArray 26)
  go_upto_region 1 with (fail)
  change Code.wp _ _ _ _ (w.alloc (.cells (U8s z32).toArray 26))
  generalize w.alloc (.cells (U8s z32).toArray 26) = W at *
  go_wp2_with fail
  refine (rmade_any _).mono ?_
  rintro e w1 ⟨gB, gK, cB, cK, rfl, hB, hK, hb1⟩
  have HB := Lib.hid hB
  have HK := Lib.hid hK
  clear hB hK
  have kr1 := kr.on hb1
  have hbb1 := BW_on hb hb1
  have Hsh := Lib.hid (sha_IsH (bysN t))
  have Hsv := Bx.mk (show shaV (bysN t) = .agg (U8s (sha (bysN t))).toArray from rfl)
  generalize sha (bysN t) = L at *
  go_wp2_with fail
  refine (rsum_any gB gK cB cK t _ hsz HB HK).mono ?_
  rw [Hsv.out]
  rintro e w2 ⟨rfl, hbk⟩
  have kr4 := Lib.hid (kr1.on hbk)
  have hb4 := Lib.hid (BW_on hbb1 hbk)
  have hszL : Hid ((Tryd.prog.info? 26).map (·.size) = some (U8s L).toArray.size) := hash_sz Hsh.out
  have hone : Hid ((U8s L).toArray.all (·.oneCell') = true) := hash_one L
  have Hth : Hid (w2.there w.heap.size 0 (U8s L).toArray.size) := Lib.hid (fun j hj => by
    rw [List.size_toArray, hash_len Hsh.out] at hj
    rw [Nat.zero_add]
    exact ⟨by rw [kr4.out.cell, U8s_at (l := z32) hj]; rfl, kr4.out.free j⟩)
  clear kr hb hb1 kr1 hbb1 hbk HB HK
  go_wp2_with (refine wpList_store_mid rfl 26 _ _ rfl w.heap.size 0 (U8s L).toArray rfl rfl Hth.out hszL.out hone.out ?_)
  have ko := setCells_all kr4.out (U8s L) (by rw [hash_len Hsh.out]; rfl)
  have hbf := below_setCells (U8s L) 0 _ hb4.out (Nat.le_refl _)
  refine bodyPost_ret (v := .agg (U8s L).toArray) (results_cell_row Tryd.results18 _ _ w.heap.size 26 _ (0, 0) _ (by rfl) ko Tryd.underlying26 rfl hszL.out) rfl ⟨by rw [Hsv.out], hbf⟩
theorem make_u8 (z : Nat) (h1 : z ≤ 1000000) (w : World) : (Instr.makeSlice 24 (.int .i64 (z : Int)) (.int .i64 (z : Int))).run Tryd.prog w = .ok (.slice (some ⟨w.heap.size, 0, none⟩) z z) (w.alloc (.cells (U8s (List.replicate z 0)).toArray 5)) := by
  obtain ⟨i, hi, hz, hs, hb⟩ := info_parts infoU8
  have h := run_make (P := Tryd.prog) w 24 5 i (.int .u8 0) Tryd.underlying24 hi hz .i64 .i64 (z : Int) (z : Int) (by omega) (Int.le_refl _) (by rw [hb]; omega) (by omega)
  have e : madeCells #[Value.int .u8 0] z = (U8s (List.replicate z 0)).toArray := by
    apply Array.ext'
    apply List.ext_getElem
    · simp [madeCells, U8s]
    · intro i h1 h2
      simp [madeCells, U8s, Nat.mod_one]
  rw [h, hs]
  simp [Value.cells, e]
set_option maxHeartbeats 4000000 in
set_option maxRecDepth 100000 in
theorem hsums_any (s : ByteArray) (zs : Int) (w : World) (ht : Hid (Tabs w)) :
    Calls Tryd.prog 3 #[.string s, .int .i64 zs] w fun e w' => e = .returned (.bool true) ∧ Below w.heap.size w w' := by
  have hz := shN_size s 200
  have hsh := Lib.hid (short02_any s 200)
  generalize shN s 200 = t at *
  go_enter Tryd.func3, Tryd.ntmps3
  go_wp2_with fail
  refine (awake02_any _ ht).mono ?_
  rintro e w1 ⟨rfl, hb1⟩
  have hT := Lib.hid (ht.out.on hb1)
  go_upto_if 12 with (fail)
  have m1 := Int.tmod_lt_of_pos zs (b := 300) (by omega)
  have m2 := Int.lt_tmod_of_pos zs (b := 300) (by omega)
  go_cut [6] (fun s6 wx => (∃ z : Nat, s6 = .int .i64 (z : Int) ∧ z < 300) ∧ wx = w1)
  case first =>
    generalize zs.tmod 300 = y at *
    by_cases hy : y < 0
    · have hw : wrap64 (-y) = -y := by unfold wrap64; omega
      have hw2 : IntKind.i64.wrap (-y) = -y := by rw [IntKind.wrap_i64]; omega
      go_wp2_with fail
      go_meet
      exact ⟨⟨(-y).toNat, congrArg (Value.int .i64) (by omega), by omega⟩, rfl⟩
    · go_wp2_with fail
      go_meet
      exact ⟨⟨y.toNat, congrArg (Value.int .i64) (by omega), by omega⟩, rfl⟩
  case rest =>
  obtain ⟨⟨z, rfl, hz3⟩, rfl⟩ := hcut
  have hmk := make_u8 z (by omega)
  have hZlt : ∀ b ∈ List.replicate z 0, b < 256 := fun b hb => by have := (List.mem_replicate.1 hb).2; omega
  have hZl : (List.replicate z 0).length = z := List.length_replicate
  have hcv : Hid (∀ w g, Blk w g 5 (U8s (List.replicate z 0)).toArray → (convert 24 9 (.slice (some ⟨g, 0, none⟩) z z)).run Tryd.prog w = .ok (.string (byt (List.replicate z 0))) w) := Lib.hid (fun w g kb => by
    have h9 := conv_byt g 5 _ hZlt z w kb
    rwa [hZl] at h9)
  have hZs : (byt (List.replicate z 0)).size = z := by rw [byt_size, hZl]
  generalize hZ : byt (List.replicate z 0) = Z at *
  generalize List.replicate z 0 = zl at *
  obtain ⟨T, hT', hcat'⟩ := cat_big t Z (by omega)
  have hcat := Lib.hid hcat'
  have hTs : T.size ≤ 600 := by rw [← bysN_len, hT', List.length_append, bysN_len, bysN_len]; omega
  clear hcat' hT' hZ hZlt hZl
  go_wp2_with fail
  have hS0 : Tabs wc.drew ∧ Below w.heap.size w wc.drew := ⟨hT.out.on (Below.refl _ _).drew, hb1.drew⟩
  refine wp_region_held_drew (S := fun w' => Tabs w' ∧ Below w.heap.size w w') (by kernel_rfl) hS0 (fun hH0 => ?_)
  clear hS0 hT hb1
  generalize wc.drew = Y at *
  refine wpAnyH_take (i := 0) (v := .string s) rfl (by kernel_rfl) (by kernel_rfl) (by kernel_rfl) (fun _ _ _ h => h) (yk_move (by kernel_rfl) _ rfl _ (by kernel_rfl)) hH0 ?_
  refine wpAnyH_take (i := 2) (v := .int .i64 (z : Int)) rfl (by kernel_rfl) (by kernel_rfl) (by kernel_rfl) (fun _ _ _ h => h) (yk_move (by kernel_rfl) _ rfl _ (by kernel_rfl)) hH0 ?_
  refine wpAnyH_ready (rs := [1, 3]) (by kernel_rfl) (by simp) ?_
  refine AllReadyH.cons rfl (fun K hK => ?_) (AllReadyH.cons rfl (fun K hK => ?_) (AllReadyH.nil))
  · go_simp
    go_at_call 16
    refine (hsh.out _).mono ?_
    rintro e w1 ⟨rfl, rfl⟩
    go_wp2_with fail
    refine hK.out _ _ (hH0) (fun hH1 => ?_)
    clear hK K
    refine wpAnyH_ready (rs := [3]) (by kernel_rfl) (by simp) ?_
    refine AllReadyH.cons rfl (fun K hK => ?_) AllReadyH.nil
    go_simp
    refine hK.out _ _ (⟨hH1.1.on (BW_alloc (BW_refl _) _), BW_alloc hH1.2 _⟩) (fun hH2 => ?_)
    clear hK K
    have hcvY := hcv.out (Y.alloc (.cells (U8s zl).toArray 5)) Y.heap.size (blk1 Y 5 (U8s zl).toArray)
    refine wpAnyH_ready (rs := [4]) (by kernel_rfl) (by simp) ?_
    refine AllReadyH.cons rfl (fun K hK => ?_) AllReadyH.nil
    go_simp
    refine hK.out _ _ (hH2) (fun hH3 => ?_)
    clear hK K
    refine wpAnyH_take (i := 5) (v := .string T) rfl (by kernel_rfl) (by kernel_rfl) (by kernel_rfl) (fun _ _ _ h => h) (yk_bin (by kernel_rfl) _ _ _ _ _ rfl (.string t) (.string Z) (by kernel_rfl) (by kernel_rfl) _ (fun w' hw' => str_add _ _ _ _ _ w' hcat.out)) hH3 ?_
    refine wpAnyH_take (i := 6) (v := .string T) rfl (by kernel_rfl) (by kernel_rfl) (by kernel_rfl) (fun _ _ _ h => h) (yk_assign (by kernel_rfl) _ rfl _ (by kernel_rfl)) hH3 ?_
    refine wpAnyH_done (by kernel_rfl) ?_ _
    have hS := hH3
    generalize Y.alloc (.cells (U8s zl).toArray 5) = V at *
    have Hsv := Bx.mk (show shaV (bysN T) = .agg (U8s (sha (bysN T))).toArray from rfl)
    have Hsh := Lib.hid (sha_IsH (bysN T))
    have hqq := hash_eq_rfl Hsh.out
    have hqe := eq_hash _ _ Hsh.out Hsh.out
    generalize sha (bysN T) = L at *
    go_wp2_with fail
    refine (hof_any _ [T] _ (Lib.hid (strs1 _ _)) (Lib.hid (hS.1.on (BW_alloc (BW_refl _) _))) (by show (bysN T ++ []).length ≤ _; rw [List.append_nil, bysN_len]; omega) (by show 1 ≤ 9223372036854775807; decide)).mono ?_
    rw [show allB [T] = bysN T from List.append_nil _, Hsv.out]
    rintro e w7 ⟨rfl, hb7⟩
    have hb8 := BW_on (BW_alloc hS.2 (.cells #[.string T] 9)) hb7
    go_wp2_with fail
    refine (rsumof_any T _ (by omega)).mono ?_
    rw [Hsv.out]
    rintro e w9 ⟨rfl, hb9⟩
    go_wp2_with fail
    go_ret
    exact ⟨by simp, BW_on hb8 hb9⟩
  · go_simp
    refine hK.out _ _ (⟨hH0.1.on (BW_alloc (BW_refl _) _), BW_alloc hH0.2 _⟩) (fun hH1 => ?_)
    clear hK K
    have hcvY := hcv.out (Y.alloc (.cells (U8s zl).toArray 5)) Y.heap.size (blk1 Y 5 (U8s zl).toArray)
    refine wpAnyH_ready (rs := [1, 4]) (by kernel_rfl) (by simp) ?_
    refine AllReadyH.cons rfl (fun K hK => ?_) (AllReadyH.cons rfl (fun K hK => ?_) (AllReadyH.nil))
    · go_simp
      go_at_call 16
      refine (hsh.out _).mono ?_
      rintro e w1 ⟨rfl, rfl⟩
      go_wp2_with fail
      refine hK.out _ _ (hH1) (fun hH2 => ?_)
      clear hK K
      refine wpAnyH_ready (rs := [4]) (by kernel_rfl) (by simp) ?_
      refine AllReadyH.cons rfl (fun K hK => ?_) AllReadyH.nil
      go_simp
      refine hK.out _ _ (hH2) (fun hH3 => ?_)
      clear hK K
      refine wpAnyH_take (i := 5) (v := .string T) rfl (by kernel_rfl) (by kernel_rfl) (by kernel_rfl) (fun _ _ _ h => h) (yk_bin (by kernel_rfl) _ _ _ _ _ rfl (.string t) (.string Z) (by kernel_rfl) (by kernel_rfl) _ (fun w' hw' => str_add _ _ _ _ _ w' hcat.out)) hH3 ?_
      refine wpAnyH_take (i := 6) (v := .string T) rfl (by kernel_rfl) (by kernel_rfl) (by kernel_rfl) (fun _ _ _ h => h) (yk_assign (by kernel_rfl) _ rfl _ (by kernel_rfl)) hH3 ?_
      refine wpAnyH_done (by kernel_rfl) ?_ _
      have hS := hH3
      generalize Y.alloc (.cells (U8s zl).toArray 5) = V at *
      have Hsv := Bx.mk (show shaV (bysN T) = .agg (U8s (sha (bysN T))).toArray from rfl)
      have Hsh := Lib.hid (sha_IsH (bysN T))
      have hqq := hash_eq_rfl Hsh.out
      have hqe := eq_hash _ _ Hsh.out Hsh.out
      generalize sha (bysN T) = L at *
      go_wp2_with fail
      refine (hof_any _ [T] _ (Lib.hid (strs1 _ _)) (Lib.hid (hS.1.on (BW_alloc (BW_refl _) _))) (by show (bysN T ++ []).length ≤ _; rw [List.append_nil, bysN_len]; omega) (by show 1 ≤ 9223372036854775807; decide)).mono ?_
      rw [show allB [T] = bysN T from List.append_nil _, Hsv.out]
      rintro e w7 ⟨rfl, hb7⟩
      have hb8 := BW_on (BW_alloc hS.2 (.cells #[.string T] 9)) hb7
      go_wp2_with fail
      refine (rsumof_any T _ (by omega)).mono ?_
      rw [Hsv.out]
      rintro e w9 ⟨rfl, hb9⟩
      go_wp2_with fail
      go_ret
      exact ⟨by simp, BW_on hb8 hb9⟩
    · go_simp
      refine hK.out _ _ (hH1) (fun hH2 => ?_)
      clear hK K
      refine wpAnyH_ready (rs := [1]) (by kernel_rfl) (by simp) ?_
      refine AllReadyH.cons rfl (fun K hK => ?_) AllReadyH.nil
      go_simp
      go_at_call 16
      refine (hsh.out _).mono ?_
      rintro e w1 ⟨rfl, rfl⟩
      go_wp2_with fail
      refine hK.out _ _ (hH2) (fun hH3 => ?_)
      clear hK K
      refine wpAnyH_take (i := 5) (v := .string T) rfl (by kernel_rfl) (by kernel_rfl) (by kernel_rfl) (fun _ _ _ h => h) (yk_bin (by kernel_rfl) _ _ _ _ _ rfl (.string t) (.string Z) (by kernel_rfl) (by kernel_rfl) _ (fun w' hw' => str_add _ _ _ _ _ w' hcat.out)) hH3 ?_
      refine wpAnyH_take (i := 6) (v := .string T) rfl (by kernel_rfl) (by kernel_rfl) (by kernel_rfl) (fun _ _ _ h => h) (yk_assign (by kernel_rfl) _ rfl _ (by kernel_rfl)) hH3 ?_
      refine wpAnyH_done (by kernel_rfl) ?_ _
      have hS := hH3
      generalize Y.alloc (.cells (U8s zl).toArray 5) = V at *
      have Hsv := Bx.mk (show shaV (bysN T) = .agg (U8s (sha (bysN T))).toArray from rfl)
      have Hsh := Lib.hid (sha_IsH (bysN T))
      have hqq := hash_eq_rfl Hsh.out
      have hqe := eq_hash _ _ Hsh.out Hsh.out
      generalize sha (bysN T) = L at *
      go_wp2_with fail
      refine (hof_any _ [T] _ (Lib.hid (strs1 _ _)) (Lib.hid (hS.1.on (BW_alloc (BW_refl _) _))) (by show (bysN T ++ []).length ≤ _; rw [List.append_nil, bysN_len]; omega) (by show 1 ≤ 9223372036854775807; decide)).mono ?_
      rw [show allB [T] = bysN T from List.append_nil _, Hsv.out]
      rintro e w7 ⟨rfl, hb7⟩
      have hb8 := BW_on (BW_alloc hS.2 (.cells #[.string T] 9)) hb7
      go_wp2_with fail
      refine (rsumof_any T _ (by omega)).mono ?_
      rw [Hsv.out]
      rintro e w9 ⟨rfl, hb9⟩
      go_wp2_with fail
      go_ret
      exact ⟨by simp, BW_on hb8 hb9⟩
end Go.Proofs.YtidceockbjeaoaaDoor

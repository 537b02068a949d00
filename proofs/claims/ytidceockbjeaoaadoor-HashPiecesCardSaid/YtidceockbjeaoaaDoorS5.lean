/- The seal's answers: Check, Of, Right; short; the example. -/
import Derived.Test.YtidceockbjeaoaaDoorS4
namespace Go.Proofs.YtidceockbjeaoaaDoor
open Go.RowKit
attribute [local go_sem ↓] Go.wp_at_zero Go.wp_at_succ
/-- Where a sealer lies: nowhere (the empty key's), or in a box. -/
def SlrAt (p : Option Addr) (B : List Nat) (w : World) : Prop := (p = none ∧ B = z64) ∨ ∃ g, p = some ⟨g, 0, none⟩ ∧ Blk w g 66 (U8s B).toArray
theorem SlrAt.on {p : Option Addr} {B : List Nat} {w w' : World} (h : SlrAt p B w) (hb : Below w.heap.size w w') : SlrAt p B w' := by
  rcases h with h | ⟨g, rfl, k⟩
  · exact .inl h
  · exact .inr ⟨g, rfl, k.on hb⟩
set_option maxHeartbeats 4000000 in
set_option maxRecDepth 100000 in
theorem scheck_any (p : Option Addr) (B M : List Nat) (v : Value) (L : List ByteArray) (w : World) (hB : B.length = 64) (hl : Hid (∀ b ∈ B, b < 256)) (hM : IsH M)
    (hp : Hid (SlrAt p B w)) (hv : Hid (Strs w v L)) (ht : Hid (Tabs w)) (hT : (allB L).length ≤ 100000000000000000) (hL : L.length ≤ 9223372036854775807) :
    Calls Tryd.prog 36 #[.pointer p, .agg (U8s M).toArray, v] w fun e w' => e = .returned (.bool (decide (mac B (allB L) = M))) ∧ Below w.heap.size w w' := by
  have HM := Lib.hid hM
  have hq := hash_eq (mac_IsH B (allB L)) hM
  go_enter Tryd.func36, Tryd.ntmps36
  have hS0 := (HB.nil ht.out).box hM
  have hp1 := hp.out.on (BW_alloc (BW_refl w) (.cells (U8s M).toArray 26))
  have hv1 := hv.out.on (BW_alloc (BW_refl w) (.cells (U8s M).toArray 26))
  have hszM : Hid ((Tryd.prog.info? 26).map (·.size) = some (U8s M).length) := hash_szl hM
  go_upto_region 1 with (fail)
  change Code.wp _ _ _ _ (w.alloc (.cells (U8s M).toArray 26))
  generalize w.alloc (.cells (U8s M).toArray 26) = W at *
  generalize hgm : w.heap.size = gm at *
  have Hgm := Lib.hid hgm
  clear hgm
  have hp2 : Hid (SlrAt p B W.drew) := Lib.hid (hp1.on (Below.refl _ _).drew)
  have hv2 : Hid (Strs W.drew v L) := Lib.hid (hv1.on (Below.refl _ _).drew)
  clear hp1 hv1 hp hv ht hM
  refine wp_region_held_drew (S := HB w [(gm, M)]) (by kernel_rfl) hS0.drew (fun hH0 => ?_)
  refine wpAnyH_take (i := 0) (v := .pointer p) rfl (by kernel_rfl) (by kernel_rfl) (by kernel_rfl) (fun _ _ _ h => h) (yk_move (by kernel_rfl) _ rfl _ (by kernel_rfl)) hH0 ?_
  refine wpAnyH_take (i := 1) (v := v) rfl (by kernel_rfl) (by kernel_rfl) (by kernel_rfl) (fun _ _ _ h => h) (yk_move (by kernel_rfl) _ rfl _ (by kernel_rfl)) hH0 ?_
  refine wpAnyH_take (i := 3) (v := .agg (U8s M).toArray) rfl (by kernel_rfl) (by kernel_rfl) (by kernel_rfl) (fun _ _ _ h => h) (yieldsIf_load_mid (by kernel_rfl) _ _ rfl gm 0 (by kernel_rfl) (U8s M) _ (fun _ h => (HB.at h (.head _)).2) Tryd.underlying26 rfl hszM.out) hH0 ?_
  refine wpAnyH_ready (rs := [2]) (by kernel_rfl) (by simp) ?_
  refine AllReadyH.cons rfl (fun K hK => ?_) AllReadyH.nil
  go_simp
  go_at_call 35
  refine (sseal_any p B v L _ hB hl hp2 hv2 (Lib.hid hH0.2.1) hT hL).mono ?_
  rintro e w2 ⟨rfl, hd2⟩
  go_wp2_with fail
  refine hK.out _ _ (HB.on hH0 hd2) (fun hH1 => ?_)
  clear hK K
  refine wpAnyH_take (i := 4) (v := .bool (decide (mac B (allB L) = M))) rfl (by kernel_rfl) (by kernel_rfl) (by kernel_rfl) (fun _ _ _ h => h) (yk_bin (by kernel_rfl) _ _ _ _ _ rfl (.agg (U8s (mac B (allB L))).toArray) (.agg (U8s M).toArray) (by kernel_rfl) (by kernel_rfl) _ (fun w' hw' => hq _ _ w')) hH1 ?_
  refine wpAnyH_take (i := 5) (v := .bool (decide (mac B (allB L) = M))) rfl (by kernel_rfl) (by kernel_rfl) (by kernel_rfl) (fun _ _ _ h => h) (yk_assign (by kernel_rfl) _ rfl _ (by kernel_rfl)) hH1 ?_
  refine wpAnyH_done (by kernel_rfl) ?_ _
  have hbf := hH1.2.2
  rw [Hgm.out] at hbf
  go_wp2_with fail
  go_ret
  exact ⟨rfl, by rw [Hgm.out]; exact hbf⟩
set_option maxHeartbeats 4000000 in
set_option maxRecDepth 100000 in
theorem sof_any (key s : ByteArray) (w : World) (h1 : key.size ≤ 1000000) (h2 : s.size ≤ 1000000) (ht : Hid (Tabs w)) :
    Calls Tryd.prog 32 #[.string key, .string s] w fun e w' => e = .returned (.agg (U8s (mac (kb (bysN key)) (bysN s))).toArray) ∧ Below w.heap.size w w' := by
  have hB := kb_len (bysN key)
  have hl := Lib.hid (kb_lt (bysN_lt key))
  go_enter Tryd.func32, Tryd.ntmps32
  have kr := blk1 w 26 (U8s z32).toArray
  have hb := BW_alloc (BW_refl w) (.cells (U8s z32).toArray 26)
  have hT := ht.out.on hb
  go_upto_region 1 with (fail)
  change Code.wp _ _ _ _ (w.alloc (.cells (U8s z32).toArray 26))
  generalize w.alloc (.cells (U8s z32).toArray 26) = W at *
  go_wp2_with fail
  refine (snew_any key _ h1 (Lib.hid hT)).mono ?_
  rintro e w1 ⟨g, rfl, hg1, kg, hb1⟩
  have kr1 := kr.on hb1
  have hT1 := hT.on hb1
  have hbb1 := BW_on hb hb1
  generalize hkB : kb (bysN key) = B at *
  have HkB := Bx.mk hkB
  clear hkB kr hT hb hb1
  go_wp2_with fail
  have hall : allB [s] = bysN s := List.append_nil _
  refine (sseal_any (some ⟨g, 0, none⟩) B _ [s] _ hB hl (Lib.hid (.inr ⟨g, rfl, kg.alloc _⟩)) (Lib.hid (strs1 _ _)) (Lib.hid (hT1.on (BW_alloc (BW_refl _) _))) (by rw [hall, bysN_len]; omega) (by show 1 ≤ 9223372036854775807; decide)).mono ?_
  rintro e w5 ⟨rfl, hb5⟩
  rw [hall]
  have kr5 := (kr1.alloc (.cells #[.string s] 9)).on hb5
  have hbb5 := BW_on (BW_alloc hbb1 (.cells #[.string s] 9)) hb5
  have HH2 := Lib.hid (mac_IsH B (bysN s))
  generalize hm2 : mac B (bysN s) = H2 at *
  have Hm2 := Bx.mk hm2
  have hszL : Hid ((Tryd.prog.info? 26).map (·.size) = some (U8s H2).toArray.size) := hash_sz HH2.out
  have hone2 : Hid ((U8s H2).toArray.all (·.oneCell') = true) := hash_one H2
  have Hth : Hid (w5.there w.heap.size 0 (U8s H2).toArray.size) := Lib.hid (fun j hj => by
    rw [List.size_toArray, hash_len HH2.out] at hj
    rw [Nat.zero_add]
    exact ⟨by rw [kr5.cell, U8s_at (l := z32) hj]; rfl, kr5.free j⟩)
  have ko := Lib.hid (setCells_all kr5 (U8s H2) (by rw [hash_len HH2.out]; rfl))
  have hbf := Lib.hid (below_setCells (U8s H2) 0 _ hbb5 (Nat.le_refl _))
  clear kr1 hT1 hbb1 hb5 kr5 hbb5 hall hm2 kg
  go_wp2_with (refine wpList_store_mid rfl 26 _ _ rfl w.heap.size 0 (U8s H2).toArray rfl rfl Hth.out hszL.out hone2.out ?_)
  refine bodyPost_ret (v := .agg (U8s H2).toArray) (results_cell_row Tryd.results32 _ _ w.heap.size 26 _ (0, 0) _ (by rfl) ko.out Tryd.underlying26 rfl hszL.out) rfl ⟨by rw [HkB.out, Hm2.out], hbf.out⟩
set_option maxHeartbeats 4000000 in
set_option maxRecDepth 100000 in
theorem sright_any (key s : ByteArray) (M : List Nat) (w : World) (h1 : key.size ≤ 1000000) (h2 : s.size ≤ 1000000) (hM : IsH M) (ht : Hid (Tabs w)) :
    Calls Tryd.prog 33 #[.string key, .string s, .agg (U8s M).toArray] w fun e w' => e = .returned (.bool (decide (mac (kb (bysN key)) (bysN s) = M))) ∧ Below w.heap.size w w' := by
  have hB := kb_len (bysN key)
  have hl := Lib.hid (kb_lt (bysN_lt key))
  have hall : allB [s] = bysN s := List.append_nil _
  go_enter Tryd.func33, Tryd.ntmps33
  have hS0 := (HB.nil ht.out).box hM
  have hszM : Hid ((Tryd.prog.info? 26).map (·.size) = some (U8s M).length) := hash_szl hM
  go_upto_region 1 with (fail)
  change Code.wp _ _ _ _ (w.alloc (.cells (U8s M).toArray 26))
  generalize w.alloc (.cells (U8s M).toArray 26) = W at *
  generalize hgm : w.heap.size = gm at *
  have Hgm := Lib.hid hgm
  clear hgm ht
  generalize hkB : kb (bysN key) = B at *
  have HkB := Bx.mk hkB
  refine wp_region_held_drew (S := HB w [(gm, M)]) (by kernel_rfl) hS0.drew (fun hH0 => ?_)
  refine wpAnyH_take (i := 0) (v := .string key) rfl (by kernel_rfl) (by kernel_rfl) (by kernel_rfl) (fun _ _ _ h => h) (yk_move (by kernel_rfl) _ rfl _ (by kernel_rfl)) hH0 ?_
  refine wpAnyH_take (i := 2) (v := .agg (U8s M).toArray) rfl (by kernel_rfl) (by kernel_rfl) (by kernel_rfl) (fun _ _ _ h => h) (yieldsIf_load_mid (by kernel_rfl) _ _ rfl gm 0 (by kernel_rfl) (U8s M) _ (fun _ h => (HB.at h (.head _)).2) Tryd.underlying26 rfl hszM.out) hH0 ?_
  refine wpAnyH_take (i := 3) (v := .string s) rfl (by kernel_rfl) (by kernel_rfl) (by kernel_rfl) (fun _ _ _ h => h) (yk_move (by kernel_rfl) _ rfl _ (by kernel_rfl)) hH0 ?_
  refine wpAnyH_ready (rs := [1, 4]) (by kernel_rfl) (by simp) ?_
  refine AllReadyH.cons rfl (fun K hK => ?_) (AllReadyH.cons rfl (fun K hK => ?_) (AllReadyH.nil))
  · go_simp
    go_at_call 34
    refine (snew_any key _ h1 (Lib.hid hH0.2.1)).mono ?_
    rintro e w1 ⟨g, rfl, hg1, kg, hd1⟩
    rw [HkB.out] at kg
    go_wp2_with fail
    refine hK.out _ _ (HB.on hH0 hd1) (fun hH1 => ?_)
    clear hK K
    refine wpAnyH_ready (rs := [4]) (by kernel_rfl) (by simp) ?_
    refine AllReadyH.cons rfl (fun K hK => ?_) AllReadyH.nil
    go_simp
    refine hK.out _ _ (HB.on hH1 (BW_alloc (BW_refl _) _)) (fun hH2 => ?_)
    clear hK K
    have hst1 := strs1 w1 s
    have kg1 := kg.alloc (.cells #[.string s] 9)
    refine wpAnyH_ready (rs := [5]) (by kernel_rfl) (by simp) ?_
    refine AllReadyH.cons rfl (fun K hK => ?_) AllReadyH.nil
    go_simp
    go_at_call 36
    refine (scheck_any (some ⟨g, 0, none⟩) B M _ [s] _ hB hl hM (Lib.hid (.inr ⟨g, rfl, kg1⟩)) (Lib.hid hst1) (Lib.hid hH2.2.1) (by rw [hall, bysN_len]; omega) (by show 1 ≤ 9223372036854775807; decide)).mono ?_
    rintro e w5 ⟨rfl, hd5⟩
    rw [hall]
    go_wp2_with fail
    refine hK.out _ _ (HB.on hH2 hd5) (fun hH3 => ?_)
    clear hK K
    refine wpAnyH_take (i := 6) (v := .bool (decide (mac B (bysN s) = M))) rfl (by kernel_rfl) (by kernel_rfl) (by kernel_rfl) (fun _ _ _ h => h) (yk_assign (by kernel_rfl) _ rfl _ (by kernel_rfl)) hH3 ?_
    refine wpAnyH_done (by kernel_rfl) ?_ _
    have hbf := hH3.2.2
    rw [Hgm.out] at hbf
    go_wp2_with fail
    go_ret
    exact ⟨by rw [HkB.out]; rfl, by rw [Hgm.out]; exact hbf⟩
  · go_simp
    refine hK.out _ _ (HB.on hH0 (BW_alloc (BW_refl _) _)) (fun hH1 => ?_)
    clear hK K
    have hst := strs1 W.drew s
    refine wpAnyH_ready (rs := [1]) (by kernel_rfl) (by simp) ?_
    refine AllReadyH.cons rfl (fun K hK => ?_) AllReadyH.nil
    go_simp
    go_at_call 34
    refine (snew_any key _ h1 (Lib.hid hH1.2.1)).mono ?_
    rintro e w1 ⟨g, rfl, hg1, kg, hd1⟩
    rw [HkB.out] at kg
    have hst1 := hst.on hd1
    go_wp2_with fail
    refine hK.out _ _ (HB.on hH1 hd1) (fun hH2 => ?_)
    clear hK K
    refine wpAnyH_ready (rs := [5]) (by kernel_rfl) (by simp) ?_
    refine AllReadyH.cons rfl (fun K hK => ?_) AllReadyH.nil
    go_simp
    go_at_call 36
    refine (scheck_any (some ⟨g, 0, none⟩) B M _ [s] _ hB hl hM (Lib.hid (.inr ⟨g, rfl, kg⟩)) (Lib.hid hst1) (Lib.hid hH2.2.1) (by rw [hall, bysN_len]; omega) (by show 1 ≤ 9223372036854775807; decide)).mono ?_
    rintro e w5 ⟨rfl, hd5⟩
    rw [hall]
    go_wp2_with fail
    refine hK.out _ _ (HB.on hH2 hd5) (fun hH3 => ?_)
    clear hK K
    refine wpAnyH_take (i := 6) (v := .bool (decide (mac B (bysN s) = M))) rfl (by kernel_rfl) (by kernel_rfl) (by kernel_rfl) (fun _ _ _ h => h) (yk_assign (by kernel_rfl) _ rfl _ (by kernel_rfl)) hH3 ?_
    refine wpAnyH_done (by kernel_rfl) ?_ _
    have hbf := hH3.2.2
    rw [Hgm.out] at hbf
    go_wp2_with fail
    go_ret
    exact ⟨by rw [HkB.out]; rfl, by rw [Hgm.out]; exact hbf⟩
end Go.Proofs.YtidceockbjeaoaaDoor

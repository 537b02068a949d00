/- The law TransferPlays' walk: coins go, come and are given back as the words say. -/
import Derived.Test.YtpcdgljcpacpiaaGreatDoorUe
import Derived.Test.YtpcdgljcpacpiaaGreatDoorUf
import Derived.Test.YtpcdgljcpacpiaaGreatDoorUc
set_option maxRecDepth 20000
namespace Go.Proofs.YtpcdgljcpacpiaaGreatDoor
open Go.RowKit
attribute [local go_sem ↓] Go.wp_at_zero Go.wp_at_succ
theorem tmod3 (x : Int) : x.tmod 3 = 0 ∨ x.tmod 3 = 1 ∨ x.tmod 3 = 2 ∨ x.tmod 3 = -1 ∨ x.tmod 3 = -2 := by
  have h1 := Int.tmod_lt_of_pos x (show (0 : Int) < 3 by decide)
  have h2 : -3 < x.tmod 3 := Int.lt_tmod_of_pos x (show (0 : Int) < 3 by decide)
  omega
set_option maxHeartbeats 16000000 in
set_option maxRecDepth 100000 in
theorem l17plays_any (p0 : Option Addr) (cap : Nat) (L : List StpT) (w : World) (hL : L.length ≤ 9223372036854775807) (Hop : Hid (0 < L.length → ∃ g off, p0 = some ⟨g, off, none⟩ ∧ StpC w g off L)) :
    Calls Tryz.prog 3 #[.slice p0 L.length cap] w fun e w' => e = .returned (.bool true) ∧ Below w.heap.size w w' := by
  have HO := fun v w hv => of_any v S17 w hv (by have := S17_len; omega)
  rw [st_of] at HO
  replace HO := Lib.hid HO
  go_enter Tryz.func3, Tryz.ntmps3
  go_wp2_with fail
  refine (awake17_any _).mono ?_
  rintro e w1 ⟨rfl, BB⟩
  go_wp2_with fail
  refine (start17_any _).mono ?_
  rintro e w2 ⟨vs, rfl, hst, hb⟩
  replace BB := BW_on BB hb
  obtain ⟨q2, c2, rfl⟩ := hst.len
  have e_r := Lib.hid hst
  clear hst hb
  go_wp2_with fail
  refine (HO.out _ _ e_r.out).mono ?_
  rintro e w3 ⟨vd, rfl, hd, hb⟩
  replace e_r := Lib.hid (e_r.out.on hb)
  replace BB := BW_on BB hb
  obtain ⟨q0, c0, rfl⟩ := hd.len
  have e_d := Lib.hid hd
  have hwd := BB.size
  clear hd hb HO
  replace e_d := Lib.hid (e_d.out.on (BW_alloc (BW_refl _) (.cells #[.slice q0 S17.length c0] 27)))
  replace e_r := Lib.hid (e_r.out.on (BW_alloc (BW_refl _) (.cells #[.slice q0 S17.length c0] 27)))
  replace BB := BW_on BB (BW_alloc (BW_refl _) (.cells #[.slice q0 S17.length c0] 27))
  have k_d := blk1 w3 27 #[.slice q0 S17.length c0]
  have hl0 : S17.length ≤ 4 := S17_len
  have hs0 : Hid (Srt S17) := S17_srt
  go_wp2_with fail
  generalize S17 = E0 at *
  go_loopw [4, 6] (fun r i wr => ∃ (k : Nat) (q : Option Addr) (c : Nat) (q2 : Option Addr) (c2 : Nat) (E : List Ent), k ≤ L.length ∧ k ≤ 20 ∧ i = .int .i64 (k : Int) ∧ r = .slice q2 E.length c2 ∧ Hid (Srt E) ∧ E.length ≤ 4 + 2 * k ∧ Hid (Ents wr (.slice q E.length c) E) ∧ Hid (Ents wr (.slice q2 E.length c2) E) ∧ Blk wr w3.heap.size 27 #[.slice q E.length c] ∧ Below w.heap.size w wr) (fun _ i _ => (21 - intOf i).toNat)
  case atStart => exact ⟨0, q0, c0, q2, c2, E0, by omega, by omega, rfl, rfl, hs0, by omega, e_d, e_r, k_d, BB⟩
  case round =>
    clear k_d BB e_d e_r hs0 hl0
    obtain ⟨k, q, c, q2, c2, E, hk, hk20, rfl, rfl, hs, hl, e_d, e_r, k_d, BB⟩ := hrel
    by_cases hlt : k < L.length ∧ k < 20
    · obtain ⟨hlt1, hlt2⟩ := hlt
      obtain ⟨g, off, rfl, hop⟩ := Hop.out (by omega)
      have ho := (hop.on BB) k hlt1
      have hk1 : (k : Int) < (L.length : Int) := by omega
      have hk2 : (k : Int) < 20 := by omega
      have Hk3 : Hid (wrap64 ((k : Int) + 1) = (k : Int) + 1) := Lib.hid (by unfold wrap64; omega)
      clear hop
      obtain ⟨o, hoe⟩ : ∃ o, o = L[k] := ⟨_, rfl⟩
      rw [← hoe] at ho
      clear hoe
      obtain ⟨okd, oq, oh, ot, os, ok', od, of, og, on, ohn⟩ := o
      have o0 : wr.cell? ⟨g, off + k * 13, none⟩ = some (.int .i64 okd) := ho 0 (by decide)
      have o1 : wr.cell? ⟨g, off + k * 13 + 1, none⟩ = some (.int .i64 oq) := ho 1 (by decide)
      have o2 : wr.cell? ⟨g, off + k * 13 + 2, none⟩ = some (.string os) := ho 2 (by decide)
      have o3 : wr.cell? ⟨g, off + k * 13 + 3, none⟩ = some (.string ok') := ho 3 (by decide)
      have o4 : wr.cell? ⟨g, off + k * 13 + 4, none⟩ = some (.string od) := ho 4 (by decide)
      have o5 : wr.cell? ⟨g, off + k * 13 + 5, none⟩ = some (.int .u64 (limb on 0)) := ho 5 (by decide)
      have o6 : wr.cell? ⟨g, off + k * 13 + 6, none⟩ = some (.int .u64 (limb on 1)) := ho 6 (by decide)
      have o7 : wr.cell? ⟨g, off + k * 13 + 7, none⟩ = some (.int .u64 (limb on 2)) := ho 7 (by decide)
      have o8 : wr.cell? ⟨g, off + k * 13 + 8, none⟩ = some (.int .u64 (limb on 3)) := ho 8 (by decide)
      have o9 : wr.cell? ⟨g, off + k * 13 + 9, none⟩ = some (.string of) := ho 9 (by decide)
      have o10 : wr.cell? ⟨g, off + k * 13 + 10, none⟩ = some (.string og) := ho 10 (by decide)
      have o11 : wr.cell? ⟨g, off + k * 13 + 11, none⟩ = some (.int .i64 oh) := ho 11 (by decide)
      have o12 : wr.cell? ⟨g, off + k * 13 + 12, none⟩ = some (.int .i64 ot) := ho 12 (by decide)
      clear ho
      have zS := shN_size os 70
      have zK := shN_size ok' 70
      have zD := shN_size od 210
      have zF := shN_size of 70
      have zG := shN_size og 70
      go_wp2_with fail
      refine (small17_any oq oh ot _ _ _ _ os ok' od of og _).mono ?_
      rintro e w4 ⟨rfl, hb⟩
      have O0 := BW_cell hb o0
      clear o0 o1 o2 o3 o4 o5 o6 o7 o8 o9 o10 o11 o12
      replace k_d := k_d.on hb
      replace e_d := Lib.hid (e_d.out.on hb)
      replace e_r := Lib.hid (e_r.out.on hb)
      replace BB := BW_on BB hb
      generalize shN os 70 = S at *
      generalize shN ok' 70 = K at *
      generalize shN od 210 = D at *
      generalize shN of 70 = F at *
      generalize shN og 70 = G at *
      clear hb
      have hz34 : w3.heap.size < w4.heap.size := k_d.lt
      replace O0 := BW_cell (BW_alloc (BW_refl _) (.cells #[.int .i64 oq, .string S, .string K, .string D, .int .u64 (limb on 0), .int .u64 (limb on 1), .int .u64 (limb on 2), .int .u64 (limb on 3), .string F, .string G, .int .i64 oh, .int .i64 ot] 35)) O0
      replace k_d := k_d.on (BW_alloc (BW_refl _) (.cells #[.int .i64 oq, .string S, .string K, .string D, .int .u64 (limb on 0), .int .u64 (limb on 1), .int .u64 (limb on 2), .int .u64 (limb on 3), .string F, .string G, .int .i64 oh, .int .i64 ot] 35))
      replace e_d := Lib.hid (e_d.out.on (BW_alloc (BW_refl _) (.cells #[.int .i64 oq, .string S, .string K, .string D, .int .u64 (limb on 0), .int .u64 (limb on 1), .int .u64 (limb on 2), .int .u64 (limb on 3), .string F, .string G, .int .i64 oh, .int .i64 ot] 35)))
      replace e_r := Lib.hid (e_r.out.on (BW_alloc (BW_refl _) (.cells #[.int .i64 oq, .string S, .string K, .string D, .int .u64 (limb on 0), .int .u64 (limb on 1), .int .u64 (limb on 2), .int .u64 (limb on 3), .string F, .string G, .int .i64 oh, .int .i64 ot] 35)))
      replace BB := BW_on BB (BW_alloc (BW_refl _) (.cells #[.int .i64 oq, .string S, .string K, .string D, .int .u64 (limb on 0), .int .u64 (limb on 1), .int .u64 (limb on 2), .int .u64 (limb on 3), .string F, .string G, .int .i64 oh, .int .i64 ot] 35))
      have k_p := blk1 w4 35 #[.int .i64 oq, .string S, .string K, .string D, .int .u64 (limb on 0), .int .u64 (limb on 1), .int .u64 (limb on 2), .int .u64 (limb on 3), .string F, .string G, .int .i64 oh, .int .i64 ot]
      go_upto_region 8 with (fail)
      change Code.wp _ _ _ _ (w4.alloc (.cells #[.int .i64 oq, .string S, .string K, .string D, .int .u64 (limb on 0), .int .u64 (limb on 1), .int .u64 (limb on 2), .int .u64 (limb on 3), .string F, .string G, .int .i64 oh, .int .i64 ot] 35))
      generalize hV : w4.alloc (.cells #[.int .i64 oq, .string S, .string K, .string D, .int .u64 (limb on 0), .int .u64 (limb on 1), .int .u64 (limb on 2), .int .u64 (limb on 3), .string F, .string G, .int .i64 oh, .int .i64 ot] 35) = V at *
      have hzV : V.heap.size = w4.heap.size + 1 := by rw [← hV]; simp
      have hzV1 : w4.heap.size < V.heap.size := by omega
      clear hV hzV
      go_cut [8] (fun s8 wx => (∃ j : Int, s8 = .int .i64 j ∧ Hid (j = 0 ∨ j = 1 ∨ j = 2 ∨ j = -1 ∨ j = -2)) ∧ wx = V)
      case first =>
        go_wp2_with fail
        go_meet
        exact ⟨⟨_, rfl, Lib.hid (tmod3 okd)⟩, rfl⟩
      case rest =>
        obtain ⟨⟨j, rfl, hj⟩, rfl⟩ := hcut
        clear O0
        go_upto_if 41 with (fail)
        go_cut [8] (fun s8 wx => (s8 = .int .i64 0 ∨ s8 = .int .i64 1 ∨ s8 = .int .i64 2) ∧ wx = wc)
        case first =>
          rcases hj.out with rfl | rfl | rfl | rfl | rfl
          all_goals
            go_wp2_with fail
            go_meet
            exact ⟨by simp, rfl⟩
        case rest =>
          obtain ⟨hkd, hwc⟩ := hcut
          subst hwc
          rcases hkd with rfl | rfl | rfl
          · rcases hR : sendL E oq oh ot S K D F G on with ⟨x, M⟩
            have HS := fun v w hv => send_any v E oq oh ot S K D F G on w hv hs.out (by omega) (by omega) (by omega) (by omega) (by omega) (by omega) ohn
            rw [hR] at HS
            replace HS := Lib.hid HS
            have HR := fun v w hv => rsend_any v E oq oh ot S K D F G on w hv hs.out (by omega) (by omega) (by omega) (by omega) (by omega) (by omega) ohn
            rw [hR] at HR
            replace HR := Lib.hid HR
            have hinv := send_inv hs.out oq oh ot S K D F G on
            rw [hR] at hinv
            have hsM : Hid (Srt M) := hinv.1
            have hlM : M.length ≤ E.length + 2 := hinv.2
            clear hinv hR
            go_upto_region 12 with (fail)
            change Code.wp _ _ _ _ (wc.alloc (.cells #[.slice none 0 0] 27))
            replace k_d := k_d.on (BW_alloc (BW_refl _) (.cells #[.slice none 0 0] 27))
            replace k_p := k_p.on (BW_alloc (BW_refl _) (.cells #[.slice none 0 0] 27))
            replace e_d := Lib.hid (e_d.out.on (BW_alloc (BW_refl _) (.cells #[.slice none 0 0] 27)))
            replace e_r := Lib.hid (e_r.out.on (BW_alloc (BW_refl _) (.cells #[.slice none 0 0] 27)))
            replace BB := BW_on BB (BW_alloc (BW_refl _) (.cells #[.slice none 0 0] 27))
            have k_x := blk1 wc 27 #[.slice none 0 0]
            generalize hW : wc.alloc (.cells #[.slice none 0 0] 27) = W at *
            clear hW
            have c_d := fun i => k_d.cell i
            have c_p := fun i => k_p.cell i
            go_wp2_with fail
            refine (HS.out _ _ e_d.out).mono ?_
            rintro e w5 ⟨q5, c5, rfl, hen, hb⟩
            clear c_d c_p
            replace k_d := k_d.on hb
            replace k_p := k_p.on hb
            replace k_x := k_x.on hb
            replace e_d := Lib.hid (e_d.out.on hb)
            replace e_r := Lib.hid (e_r.out.on hb)
            replace BB := BW_on BB hb
            clear hb HS
            have xe := Lib.hid (hen.box k_x (.slice q5 M.length c5))
            have xde := Lib.hid (e_d.out.box k_x (.slice q5 M.length c5))
            have xre := Lib.hid (e_r.out.box k_x (.slice q5 M.length c5))
            have xx := k_x.set_ 0 (.slice q5 M.length c5)
            have xd := k_d.far (p := ⟨wc.heap.size, 0, none⟩) (by show w3.heap.size ≠ wc.heap.size; omega) (.slice q5 M.length c5)
            have xp := k_p.far (p := ⟨wc.heap.size, 0, none⟩) (by show w4.heap.size ≠ wc.heap.size; omega) (.slice q5 M.length c5)
            have xb := BB.setCell (p := ⟨wc.heap.size, 0, none⟩) (by show w.heap.size ≤ wc.heap.size; omega) (.slice q5 M.length c5)
            have c_x := fun i => k_x.cell i
            have f_x := fun i => k_x.free i
            go_upto_region 20 with (fail)
            change Code.wp _ _ _ _ (w5.setCell ⟨wc.heap.size, 0, none⟩ (.slice q5 M.length c5))
            clear c_x f_x k_x k_d k_p e_d e_r BB hen
            generalize w5.setCell ⟨wc.heap.size, 0, none⟩ (.slice q5 M.length c5) = W7 at *
            have k_x := xx
            have k_d := xd
            have k_p := xp
            have BB := xb
            have e_x := xe
            have e_d := xde
            have e_r := xre
            clear xx xd xp xb xe xde xre
            have c_p := fun i => k_p.cell i
            go_wp2_with fail
            refine (HR.out _ _ e_r.out).mono ?_
            rintro e w6 ⟨v6, rfl, hen, hb⟩
            clear c_p
            replace k_x := k_x.on hb
            replace k_d := k_d.on hb
            replace k_p := k_p.on hb
            replace e_x := Lib.hid (e_x.out.on hb)
            replace e_d := Lib.hid (e_d.out.on hb)
            replace e_r := Lib.hid (e_r.out.on hb)
            replace BB := BW_on BB hb
            obtain ⟨q6, c6, rfl⟩ := hen.len
            have e_y := Lib.hid hen
            clear hen hb HR
            have c_x := fun i => k_x.cell i
            go_wp2_with fail
            refine (all_any _ M _ e_x.out (by omega)).mono ?_
            rintro e w7 ⟨va, rfl, hown, hb⟩
            clear c_x
            replace k_x := k_x.on hb
            replace k_d := k_d.on hb
            replace k_p := k_p.on hb
            replace e_x := Lib.hid (e_x.out.on hb)
            replace e_d := Lib.hid (e_d.out.on hb)
            replace e_r := Lib.hid (e_r.out.on hb)
            replace e_y := Lib.hid (e_y.out.on hb)
            replace BB := BW_on BB hb
            have e_a : Hid (Ents w7 va M) := own_ents hown
            clear hown hb
            go_wp2_with fail
            refine (rsame_any _ _ M M _ e_a.out e_y.out (by omega) (by omega)).mono ?_
            rintro e w8 ⟨rfl, hb⟩
            replace k_x := k_x.on hb
            replace k_d := k_d.on hb
            replace k_p := k_p.on hb
            replace e_x := Lib.hid (e_x.out.on hb)
            replace e_d := Lib.hid (e_d.out.on hb)
            replace e_r := Lib.hid (e_r.out.on hb)
            replace e_y := Lib.hid (e_y.out.on hb)
            replace BB := BW_on BB hb
            rw [decide_eq_true rfl]
            clear hb e_a
            have HH := Lib.hid (fun w => home17_any oq oh ot S K D F G on w (by omega) (by omega))
            have HRH := Lib.hid (fun w => rhome17_any oq oh ot S K D F G on w (by omega) (by omega))
            have HA := Lib.hid (fun w => arr17_any oq oh ot S K D F G on w (by omega) (by omega) (by omega))
            have HRA := Lib.hid (fun w => rarr17_any oq oh ot S K D F G on w (by omega) (by omega) (by omega))
            generalize homeB S D = hb0 at *
            generalize arrB S K D = ar0 at *
            go_upto_region 25 with (fail)
            refine wp_region_held_drew (S := BxS w8 [(w4.heap.size, 35, #[.int .i64 oq, .string S, .string K, .string D, .int .u64 (limb on 0), .int .u64 (limb on 1), .int .u64 (limb on 2), .int .u64 (limb on 3), .string F, .string G, .int .i64 oh, .int .i64 ot])]) (by kernel_rfl) (((BxS.nil (BW_refl w8)).cons k_p)).drew (fun hH0 => ?_)
            refine wpAnyH_take (i := 0) (v := .bool true) rfl (by kernel_rfl) (by kernel_rfl) (by kernel_rfl) (fun _ _ _ h => h) (yk_move (by kernel_rfl) _ rfl _ (by kernel_rfl)) hH0 ?_
            refine wpAnyH_take (i := 1) (v := .bool false) rfl (by kernel_rfl) (by kernel_rfl) (by kernel_rfl) (fun _ _ _ h => h) (yk_un (by kernel_rfl) _ _ _ rfl (.bool true) (by kernel_rfl) _ (fun w' hw' => by go_simp)) hH0 ?_
            refine wpAnyH_take (i := 2) (v := .bool false) rfl (by kernel_rfl) (by kernel_rfl) (by kernel_rfl) (fun _ _ _ h => h) (yk_move (by kernel_rfl) _ rfl _ (by kernel_rfl)) hH0 ?_
            refine wpAnyH_take (i := 3) (v := .int .i64 x) rfl (by kernel_rfl) (by kernel_rfl) (by kernel_rfl) (fun _ _ _ h => h) (yk_move (by kernel_rfl) _ rfl _ (by kernel_rfl)) hH0 ?_
            refine wpAnyH_take (i := 4) (v := .int .i64 x) rfl (by kernel_rfl) (by kernel_rfl) (by kernel_rfl) (fun _ _ _ h => h) (yk_move (by kernel_rfl) _ rfl _ (by kernel_rfl)) hH0 ?_
            refine wpAnyH_take (i := 5) (v := .bool false) rfl (by kernel_rfl) (by kernel_rfl) (by kernel_rfl) (fun _ _ _ h => h) (yk_bin (by kernel_rfl) _ _ _ _ _ rfl (.int .i64 x) (.int .i64 x) (by kernel_rfl) (by kernel_rfl) _ (fun w' hw' => by go_simp)) hH0 ?_
            refine wpAnyH_take (i := 6) (v := .bool false) rfl (by kernel_rfl) (by kernel_rfl) (by kernel_rfl) (fun _ _ _ h => h) (yk_pick (by kernel_rfl) _ _ _ rfl false (by kernel_rfl) _ (by kernel_rfl)) hH0 ?_
            refine wpAnyH_take (i := 7) (v := .bool false) rfl (by kernel_rfl) (by kernel_rfl) (by kernel_rfl) (fun _ _ _ h => h) (yk_move (by kernel_rfl) _ rfl _ (by kernel_rfl)) hH0 ?_
            refine wpAnyH_take (i := 8) (v := .agg #[.int .i64 oq, .string S, .string K, .string D, .int .u64 (limb on 0), .int .u64 (limb on 1), .int .u64 (limb on 2), .int .u64 (limb on 3), .string F, .string G, .int .i64 oh, .int .i64 ot]) rfl (by kernel_rfl) (by kernel_rfl) (by kernel_rfl) (fun _ _ _ h => h) (yk_load (by kernel_rfl) _ _ rfl (.pointer (some ⟨w4.heap.size, 0, none⟩)) (by kernel_rfl) _ (fun w' hw' => by have c0 := (hw'.bl _ (.head _)).cell 0; have c1 := (hw'.bl _ (.head _)).cell 1; have c2 := (hw'.bl _ (.head _)).cell 2; have c3 := (hw'.bl _ (.head _)).cell 3; have c4 := (hw'.bl _ (.head _)).cell 4; have c5 := (hw'.bl _ (.head _)).cell 5; have c6 := (hw'.bl _ (.head _)).cell 6; have c7 := (hw'.bl _ (.head _)).cell 7; have c8 := (hw'.bl _ (.head _)).cell 8; have c9 := (hw'.bl _ (.head _)).cell 9; have c10 := (hw'.bl _ (.head _)).cell 10; have c11 := (hw'.bl _ (.head _)).cell 11; go_simp)) hH0 ?_
            refine wpAnyH_take (i := 10) (v := .agg #[.int .i64 oq, .string S, .string K, .string D, .int .u64 (limb on 0), .int .u64 (limb on 1), .int .u64 (limb on 2), .int .u64 (limb on 3), .string F, .string G, .int .i64 oh, .int .i64 ot]) rfl (by kernel_rfl) (by kernel_rfl) (by kernel_rfl) (fun _ _ _ h => h) (yk_load (by kernel_rfl) _ _ rfl (.pointer (some ⟨w4.heap.size, 0, none⟩)) (by kernel_rfl) _ (fun w' hw' => by have c0 := (hw'.bl _ (.head _)).cell 0; have c1 := (hw'.bl _ (.head _)).cell 1; have c2 := (hw'.bl _ (.head _)).cell 2; have c3 := (hw'.bl _ (.head _)).cell 3; have c4 := (hw'.bl _ (.head _)).cell 4; have c5 := (hw'.bl _ (.head _)).cell 5; have c6 := (hw'.bl _ (.head _)).cell 6; have c7 := (hw'.bl _ (.head _)).cell 7; have c8 := (hw'.bl _ (.head _)).cell 8; have c9 := (hw'.bl _ (.head _)).cell 9; have c10 := (hw'.bl _ (.head _)).cell 10; have c11 := (hw'.bl _ (.head _)).cell 11; go_simp)) hH0 ?_
            refine wpAnyH_ready (rs := [9]) (by kernel_rfl) (by simp) ?_
            refine AllReadyH.cons rfl (fun K hK => ?_) AllReadyH.nil
            go_simp
            go_at_call 18
            refine (HH.out _).mono ?_
            rintro e w9 ⟨rfl, hd9⟩
            go_wp2_with fail
            refine hK.out _ _ (hH0.on hd9) (fun hH1 => ?_)
            clear hK K
            refine wpAnyH_ready (rs := [11]) (by kernel_rfl) (by simp) ?_
            refine AllReadyH.cons rfl (fun K hK => ?_) AllReadyH.nil
            go_simp
            go_at_call 19
            refine (HRH.out _).mono ?_
            rintro e w11 ⟨rfl, hd11⟩
            go_wp2_with fail
            refine hK.out _ _ (hH1.on hd11) (fun hH2 => ?_)
            clear hK K
            refine wpAnyH_take (i := 12) (v := .bool false) rfl (by kernel_rfl) (by kernel_rfl) (by kernel_rfl) (fun _ _ _ h => h) (yk_bin (by kernel_rfl) _ _ _ _ _ rfl (.bool hb0) (.bool hb0) (by kernel_rfl) (by kernel_rfl) _ (fun w' hw' => by cases hb0 <;> go_simp)) hH2 ?_
            refine wpAnyH_take (i := 13) (v := .bool false) rfl (by kernel_rfl) (by kernel_rfl) (by kernel_rfl) (fun _ _ _ h => h) (yk_pick (by kernel_rfl) _ _ _ rfl false (by kernel_rfl) _ (by kernel_rfl)) hH2 ?_
            refine wpAnyH_take (i := 14) (v := .bool false) rfl (by kernel_rfl) (by kernel_rfl) (by kernel_rfl) (fun _ _ _ h => h) (yk_move (by kernel_rfl) _ rfl _ (by kernel_rfl)) hH2 ?_
            refine wpAnyH_take (i := 15) (v := .agg #[.int .i64 oq, .string S, .string K, .string D, .int .u64 (limb on 0), .int .u64 (limb on 1), .int .u64 (limb on 2), .int .u64 (limb on 3), .string F, .string G, .int .i64 oh, .int .i64 ot]) rfl (by kernel_rfl) (by kernel_rfl) (by kernel_rfl) (fun _ _ _ h => h) (yk_load (by kernel_rfl) _ _ rfl (.pointer (some ⟨w4.heap.size, 0, none⟩)) (by kernel_rfl) _ (fun w' hw' => by have c0 := (hw'.bl _ (.head _)).cell 0; have c1 := (hw'.bl _ (.head _)).cell 1; have c2 := (hw'.bl _ (.head _)).cell 2; have c3 := (hw'.bl _ (.head _)).cell 3; have c4 := (hw'.bl _ (.head _)).cell 4; have c5 := (hw'.bl _ (.head _)).cell 5; have c6 := (hw'.bl _ (.head _)).cell 6; have c7 := (hw'.bl _ (.head _)).cell 7; have c8 := (hw'.bl _ (.head _)).cell 8; have c9 := (hw'.bl _ (.head _)).cell 9; have c10 := (hw'.bl _ (.head _)).cell 10; have c11 := (hw'.bl _ (.head _)).cell 11; go_simp)) hH2 ?_
            refine wpAnyH_take (i := 17) (v := .agg #[.int .i64 oq, .string S, .string K, .string D, .int .u64 (limb on 0), .int .u64 (limb on 1), .int .u64 (limb on 2), .int .u64 (limb on 3), .string F, .string G, .int .i64 oh, .int .i64 ot]) rfl (by kernel_rfl) (by kernel_rfl) (by kernel_rfl) (fun _ _ _ h => h) (yk_load (by kernel_rfl) _ _ rfl (.pointer (some ⟨w4.heap.size, 0, none⟩)) (by kernel_rfl) _ (fun w' hw' => by have c0 := (hw'.bl _ (.head _)).cell 0; have c1 := (hw'.bl _ (.head _)).cell 1; have c2 := (hw'.bl _ (.head _)).cell 2; have c3 := (hw'.bl _ (.head _)).cell 3; have c4 := (hw'.bl _ (.head _)).cell 4; have c5 := (hw'.bl _ (.head _)).cell 5; have c6 := (hw'.bl _ (.head _)).cell 6; have c7 := (hw'.bl _ (.head _)).cell 7; have c8 := (hw'.bl _ (.head _)).cell 8; have c9 := (hw'.bl _ (.head _)).cell 9; have c10 := (hw'.bl _ (.head _)).cell 10; have c11 := (hw'.bl _ (.head _)).cell 11; go_simp)) hH2 ?_
            refine wpAnyH_ready (rs := [16]) (by kernel_rfl) (by simp) ?_
            refine AllReadyH.cons rfl (fun K hK => ?_) AllReadyH.nil
            go_simp
            go_at_call 20
            refine (HA.out _).mono ?_
            rintro e w16 ⟨rfl, hd16⟩
            go_wp2_with fail
            refine hK.out _ _ (hH2.on hd16) (fun hH3 => ?_)
            clear hK K
            refine wpAnyH_ready (rs := [18]) (by kernel_rfl) (by simp) ?_
            refine AllReadyH.cons rfl (fun K hK => ?_) AllReadyH.nil
            go_simp
            go_at_call 21
            refine (HRA.out _).mono ?_
            rintro e w18 ⟨rfl, hd18⟩
            go_wp2_with fail
            refine hK.out _ _ (hH3.on hd18) (fun hH4 => ?_)
            clear hK K
            refine wpAnyH_take (i := 19) (v := .bool false) rfl (by kernel_rfl) (by kernel_rfl) (by kernel_rfl) (fun _ _ _ h => h) (yk_bin (by kernel_rfl) _ _ _ _ _ rfl (.string ar0) (.string ar0) (by kernel_rfl) (by kernel_rfl) _ (fun w' hw' => by go_simp)) hH4 ?_
            refine wpAnyH_take (i := 20) (v := .bool false) rfl (by kernel_rfl) (by kernel_rfl) (by kernel_rfl) (fun _ _ _ h => h) (yk_pick (by kernel_rfl) _ _ _ rfl false (by kernel_rfl) _ (by kernel_rfl)) hH4 ?_
            refine wpAnyH_done (by kernel_rfl) ?_ _
            have hbz := hH4.hb
            replace k_x := k_x.on hbz
            replace k_d := k_d.on hbz
            replace k_p := k_p.on hbz
            replace e_x := Lib.hid (e_x.out.on hbz)
            replace e_d := Lib.hid (e_d.out.on hbz)
            replace e_r := Lib.hid (e_r.out.on hbz)
            replace e_y := Lib.hid (e_y.out.on hbz)
            replace BB := BW_on BB hbz
            clear hH0 hH1 hH2 hH3 hH4 hbz hd9 hd11 hd16 hd18 HH HRH HA HRA
            by_cases hx : x = 0
            · have c_x := fun i => k_x.cell i
              have c_d := fun i => k_d.cell i
              have f_d := fun i => k_d.free i
              have xe := Lib.hid (e_x.out.box k_d (.slice q5 M.length c5))
              have xy := Lib.hid (e_y.out.box k_d (.slice q5 M.length c5))
              have xb := BW_off (p := ⟨w3.heap.size, 0, none⟩) hwd (.slice q5 M.length c5) BB
              have xd := k_d.set_ 0 (.slice q5 M.length c5)
              clear BB k_d k_p e_d e_r e_x e_y
              go_wp2_with fail
              go_roundw
              case rel => exact ⟨k + 1, q5, c5, q6, c6, M, by omega, by omega, by first | rfl | (rw [Hk3.out]; rfl), rfl, hsM, by omega, xe, xy, xd, xb⟩
              case measure => simp [intOf]; omega
            · go_wp2_with fail
              go_roundw
              case rel => exact ⟨k + 1, q, c, q2, c2, E, by omega, by omega, by first | rfl | (rw [Hk3.out]; rfl), rfl, hs, by omega, e_d, e_r, k_d, BB⟩
              case measure => simp [intOf]; omega
          · rcases hR : recvL E oq oh ot S K D F G on with ⟨x, M⟩
            have HS := fun v w hv => recv_any v E oq oh ot S K D F G on w hv hs.out (by omega) (by omega) (by omega) (by omega) (by omega) (by omega) ohn
            rw [hR] at HS
            replace HS := Lib.hid HS
            have HR := fun v w hv => rrecv_any v E oq oh ot S K D F G on w hv hs.out (by omega) (by omega) (by omega) (by omega) (by omega) (by omega) ohn
            rw [hR] at HR
            replace HR := Lib.hid HR
            have hinv := recv_inv hs.out oq oh ot S K D F G on
            rw [hR] at hinv
            have hsM : Hid (Srt M) := hinv.1
            have hlM : M.length ≤ E.length + 2 := hinv.2
            clear hinv hR
            go_upto_region 12 with (fail)
            change Code.wp _ _ _ _ (wc.alloc (.cells #[.slice none 0 0] 27))
            replace k_d := k_d.on (BW_alloc (BW_refl _) (.cells #[.slice none 0 0] 27))
            replace k_p := k_p.on (BW_alloc (BW_refl _) (.cells #[.slice none 0 0] 27))
            replace e_d := Lib.hid (e_d.out.on (BW_alloc (BW_refl _) (.cells #[.slice none 0 0] 27)))
            replace e_r := Lib.hid (e_r.out.on (BW_alloc (BW_refl _) (.cells #[.slice none 0 0] 27)))
            replace BB := BW_on BB (BW_alloc (BW_refl _) (.cells #[.slice none 0 0] 27))
            have k_x := blk1 wc 27 #[.slice none 0 0]
            generalize hW : wc.alloc (.cells #[.slice none 0 0] 27) = W at *
            clear hW
            have c_d := fun i => k_d.cell i
            have c_p := fun i => k_p.cell i
            go_wp2_with fail
            refine (HS.out _ _ e_d.out).mono ?_
            rintro e w5 ⟨q5, c5, rfl, hen, hb⟩
            clear c_d c_p
            replace k_d := k_d.on hb
            replace k_p := k_p.on hb
            replace k_x := k_x.on hb
            replace e_d := Lib.hid (e_d.out.on hb)
            replace e_r := Lib.hid (e_r.out.on hb)
            replace BB := BW_on BB hb
            clear hb HS
            have xe := Lib.hid (hen.box k_x (.slice q5 M.length c5))
            have xde := Lib.hid (e_d.out.box k_x (.slice q5 M.length c5))
            have xre := Lib.hid (e_r.out.box k_x (.slice q5 M.length c5))
            have xx := k_x.set_ 0 (.slice q5 M.length c5)
            have xd := k_d.far (p := ⟨wc.heap.size, 0, none⟩) (by show w3.heap.size ≠ wc.heap.size; omega) (.slice q5 M.length c5)
            have xp := k_p.far (p := ⟨wc.heap.size, 0, none⟩) (by show w4.heap.size ≠ wc.heap.size; omega) (.slice q5 M.length c5)
            have xb := BB.setCell (p := ⟨wc.heap.size, 0, none⟩) (by show w.heap.size ≤ wc.heap.size; omega) (.slice q5 M.length c5)
            have c_x := fun i => k_x.cell i
            have f_x := fun i => k_x.free i
            go_upto_region 23 with (fail)
            change Code.wp _ _ _ _ (w5.setCell ⟨wc.heap.size, 0, none⟩ (.slice q5 M.length c5))
            clear c_x f_x k_x k_d k_p e_d e_r BB hen
            generalize w5.setCell ⟨wc.heap.size, 0, none⟩ (.slice q5 M.length c5) = W7 at *
            have k_x := xx
            have k_d := xd
            have k_p := xp
            have BB := xb
            have e_x := xe
            have e_d := xde
            have e_r := xre
            clear xx xd xp xb xe xde xre
            have c_p := fun i => k_p.cell i
            go_wp2_with fail
            refine (HR.out _ _ e_r.out).mono ?_
            rintro e w6 ⟨v6, rfl, hen, hb⟩
            clear c_p
            replace k_x := k_x.on hb
            replace k_d := k_d.on hb
            replace k_p := k_p.on hb
            replace e_x := Lib.hid (e_x.out.on hb)
            replace e_d := Lib.hid (e_d.out.on hb)
            replace e_r := Lib.hid (e_r.out.on hb)
            replace BB := BW_on BB hb
            obtain ⟨q6, c6, rfl⟩ := hen.len
            have e_y := Lib.hid hen
            clear hen hb HR
            have c_x := fun i => k_x.cell i
            go_wp2_with fail
            refine (all_any _ M _ e_x.out (by omega)).mono ?_
            rintro e w7 ⟨va, rfl, hown, hb⟩
            clear c_x
            replace k_x := k_x.on hb
            replace k_d := k_d.on hb
            replace k_p := k_p.on hb
            replace e_x := Lib.hid (e_x.out.on hb)
            replace e_d := Lib.hid (e_d.out.on hb)
            replace e_r := Lib.hid (e_r.out.on hb)
            replace e_y := Lib.hid (e_y.out.on hb)
            replace BB := BW_on BB hb
            have e_a : Hid (Ents w7 va M) := own_ents hown
            clear hown hb
            go_wp2_with fail
            refine (rsame_any _ _ M M _ e_a.out e_y.out (by omega) (by omega)).mono ?_
            rintro e w8 ⟨rfl, hb⟩
            replace k_x := k_x.on hb
            replace k_d := k_d.on hb
            replace k_p := k_p.on hb
            replace e_x := Lib.hid (e_x.out.on hb)
            replace e_d := Lib.hid (e_d.out.on hb)
            replace e_r := Lib.hid (e_r.out.on hb)
            replace e_y := Lib.hid (e_y.out.on hb)
            replace BB := BW_on BB hb
            rw [decide_eq_true rfl]
            clear hb e_a
            have HH := Lib.hid (fun w => home17_any oq oh ot S K D F G on w (by omega) (by omega))
            have HRH := Lib.hid (fun w => rhome17_any oq oh ot S K D F G on w (by omega) (by omega))
            have HA := Lib.hid (fun w => arr17_any oq oh ot S K D F G on w (by omega) (by omega) (by omega))
            have HRA := Lib.hid (fun w => rarr17_any oq oh ot S K D F G on w (by omega) (by omega) (by omega))
            generalize homeB S D = hb0 at *
            generalize arrB S K D = ar0 at *
            go_upto_region 25 with (fail)
            refine wp_region_held_drew (S := BxS w8 [(w4.heap.size, 35, #[.int .i64 oq, .string S, .string K, .string D, .int .u64 (limb on 0), .int .u64 (limb on 1), .int .u64 (limb on 2), .int .u64 (limb on 3), .string F, .string G, .int .i64 oh, .int .i64 ot])]) (by kernel_rfl) (((BxS.nil (BW_refl w8)).cons k_p)).drew (fun hH0 => ?_)
            refine wpAnyH_take (i := 0) (v := .bool true) rfl (by kernel_rfl) (by kernel_rfl) (by kernel_rfl) (fun _ _ _ h => h) (yk_move (by kernel_rfl) _ rfl _ (by kernel_rfl)) hH0 ?_
            refine wpAnyH_take (i := 1) (v := .bool false) rfl (by kernel_rfl) (by kernel_rfl) (by kernel_rfl) (fun _ _ _ h => h) (yk_un (by kernel_rfl) _ _ _ rfl (.bool true) (by kernel_rfl) _ (fun w' hw' => by go_simp)) hH0 ?_
            refine wpAnyH_take (i := 2) (v := .bool false) rfl (by kernel_rfl) (by kernel_rfl) (by kernel_rfl) (fun _ _ _ h => h) (yk_move (by kernel_rfl) _ rfl _ (by kernel_rfl)) hH0 ?_
            refine wpAnyH_take (i := 3) (v := .int .i64 x) rfl (by kernel_rfl) (by kernel_rfl) (by kernel_rfl) (fun _ _ _ h => h) (yk_move (by kernel_rfl) _ rfl _ (by kernel_rfl)) hH0 ?_
            refine wpAnyH_take (i := 4) (v := .int .i64 x) rfl (by kernel_rfl) (by kernel_rfl) (by kernel_rfl) (fun _ _ _ h => h) (yk_move (by kernel_rfl) _ rfl _ (by kernel_rfl)) hH0 ?_
            refine wpAnyH_take (i := 5) (v := .bool false) rfl (by kernel_rfl) (by kernel_rfl) (by kernel_rfl) (fun _ _ _ h => h) (yk_bin (by kernel_rfl) _ _ _ _ _ rfl (.int .i64 x) (.int .i64 x) (by kernel_rfl) (by kernel_rfl) _ (fun w' hw' => by go_simp)) hH0 ?_
            refine wpAnyH_take (i := 6) (v := .bool false) rfl (by kernel_rfl) (by kernel_rfl) (by kernel_rfl) (fun _ _ _ h => h) (yk_pick (by kernel_rfl) _ _ _ rfl false (by kernel_rfl) _ (by kernel_rfl)) hH0 ?_
            refine wpAnyH_take (i := 7) (v := .bool false) rfl (by kernel_rfl) (by kernel_rfl) (by kernel_rfl) (fun _ _ _ h => h) (yk_move (by kernel_rfl) _ rfl _ (by kernel_rfl)) hH0 ?_
            refine wpAnyH_take (i := 8) (v := .agg #[.int .i64 oq, .string S, .string K, .string D, .int .u64 (limb on 0), .int .u64 (limb on 1), .int .u64 (limb on 2), .int .u64 (limb on 3), .string F, .string G, .int .i64 oh, .int .i64 ot]) rfl (by kernel_rfl) (by kernel_rfl) (by kernel_rfl) (fun _ _ _ h => h) (yk_load (by kernel_rfl) _ _ rfl (.pointer (some ⟨w4.heap.size, 0, none⟩)) (by kernel_rfl) _ (fun w' hw' => by have c0 := (hw'.bl _ (.head _)).cell 0; have c1 := (hw'.bl _ (.head _)).cell 1; have c2 := (hw'.bl _ (.head _)).cell 2; have c3 := (hw'.bl _ (.head _)).cell 3; have c4 := (hw'.bl _ (.head _)).cell 4; have c5 := (hw'.bl _ (.head _)).cell 5; have c6 := (hw'.bl _ (.head _)).cell 6; have c7 := (hw'.bl _ (.head _)).cell 7; have c8 := (hw'.bl _ (.head _)).cell 8; have c9 := (hw'.bl _ (.head _)).cell 9; have c10 := (hw'.bl _ (.head _)).cell 10; have c11 := (hw'.bl _ (.head _)).cell 11; go_simp)) hH0 ?_
            refine wpAnyH_take (i := 10) (v := .agg #[.int .i64 oq, .string S, .string K, .string D, .int .u64 (limb on 0), .int .u64 (limb on 1), .int .u64 (limb on 2), .int .u64 (limb on 3), .string F, .string G, .int .i64 oh, .int .i64 ot]) rfl (by kernel_rfl) (by kernel_rfl) (by kernel_rfl) (fun _ _ _ h => h) (yk_load (by kernel_rfl) _ _ rfl (.pointer (some ⟨w4.heap.size, 0, none⟩)) (by kernel_rfl) _ (fun w' hw' => by have c0 := (hw'.bl _ (.head _)).cell 0; have c1 := (hw'.bl _ (.head _)).cell 1; have c2 := (hw'.bl _ (.head _)).cell 2; have c3 := (hw'.bl _ (.head _)).cell 3; have c4 := (hw'.bl _ (.head _)).cell 4; have c5 := (hw'.bl _ (.head _)).cell 5; have c6 := (hw'.bl _ (.head _)).cell 6; have c7 := (hw'.bl _ (.head _)).cell 7; have c8 := (hw'.bl _ (.head _)).cell 8; have c9 := (hw'.bl _ (.head _)).cell 9; have c10 := (hw'.bl _ (.head _)).cell 10; have c11 := (hw'.bl _ (.head _)).cell 11; go_simp)) hH0 ?_
            refine wpAnyH_ready (rs := [9]) (by kernel_rfl) (by simp) ?_
            refine AllReadyH.cons rfl (fun K hK => ?_) AllReadyH.nil
            go_simp
            go_at_call 18
            refine (HH.out _).mono ?_
            rintro e w9 ⟨rfl, hd9⟩
            go_wp2_with fail
            refine hK.out _ _ (hH0.on hd9) (fun hH1 => ?_)
            clear hK K
            refine wpAnyH_ready (rs := [11]) (by kernel_rfl) (by simp) ?_
            refine AllReadyH.cons rfl (fun K hK => ?_) AllReadyH.nil
            go_simp
            go_at_call 19
            refine (HRH.out _).mono ?_
            rintro e w11 ⟨rfl, hd11⟩
            go_wp2_with fail
            refine hK.out _ _ (hH1.on hd11) (fun hH2 => ?_)
            clear hK K
            refine wpAnyH_take (i := 12) (v := .bool false) rfl (by kernel_rfl) (by kernel_rfl) (by kernel_rfl) (fun _ _ _ h => h) (yk_bin (by kernel_rfl) _ _ _ _ _ rfl (.bool hb0) (.bool hb0) (by kernel_rfl) (by kernel_rfl) _ (fun w' hw' => by cases hb0 <;> go_simp)) hH2 ?_
            refine wpAnyH_take (i := 13) (v := .bool false) rfl (by kernel_rfl) (by kernel_rfl) (by kernel_rfl) (fun _ _ _ h => h) (yk_pick (by kernel_rfl) _ _ _ rfl false (by kernel_rfl) _ (by kernel_rfl)) hH2 ?_
            refine wpAnyH_take (i := 14) (v := .bool false) rfl (by kernel_rfl) (by kernel_rfl) (by kernel_rfl) (fun _ _ _ h => h) (yk_move (by kernel_rfl) _ rfl _ (by kernel_rfl)) hH2 ?_
            refine wpAnyH_take (i := 15) (v := .agg #[.int .i64 oq, .string S, .string K, .string D, .int .u64 (limb on 0), .int .u64 (limb on 1), .int .u64 (limb on 2), .int .u64 (limb on 3), .string F, .string G, .int .i64 oh, .int .i64 ot]) rfl (by kernel_rfl) (by kernel_rfl) (by kernel_rfl) (fun _ _ _ h => h) (yk_load (by kernel_rfl) _ _ rfl (.pointer (some ⟨w4.heap.size, 0, none⟩)) (by kernel_rfl) _ (fun w' hw' => by have c0 := (hw'.bl _ (.head _)).cell 0; have c1 := (hw'.bl _ (.head _)).cell 1; have c2 := (hw'.bl _ (.head _)).cell 2; have c3 := (hw'.bl _ (.head _)).cell 3; have c4 := (hw'.bl _ (.head _)).cell 4; have c5 := (hw'.bl _ (.head _)).cell 5; have c6 := (hw'.bl _ (.head _)).cell 6; have c7 := (hw'.bl _ (.head _)).cell 7; have c8 := (hw'.bl _ (.head _)).cell 8; have c9 := (hw'.bl _ (.head _)).cell 9; have c10 := (hw'.bl _ (.head _)).cell 10; have c11 := (hw'.bl _ (.head _)).cell 11; go_simp)) hH2 ?_
            refine wpAnyH_take (i := 17) (v := .agg #[.int .i64 oq, .string S, .string K, .string D, .int .u64 (limb on 0), .int .u64 (limb on 1), .int .u64 (limb on 2), .int .u64 (limb on 3), .string F, .string G, .int .i64 oh, .int .i64 ot]) rfl (by kernel_rfl) (by kernel_rfl) (by kernel_rfl) (fun _ _ _ h => h) (yk_load (by kernel_rfl) _ _ rfl (.pointer (some ⟨w4.heap.size, 0, none⟩)) (by kernel_rfl) _ (fun w' hw' => by have c0 := (hw'.bl _ (.head _)).cell 0; have c1 := (hw'.bl _ (.head _)).cell 1; have c2 := (hw'.bl _ (.head _)).cell 2; have c3 := (hw'.bl _ (.head _)).cell 3; have c4 := (hw'.bl _ (.head _)).cell 4; have c5 := (hw'.bl _ (.head _)).cell 5; have c6 := (hw'.bl _ (.head _)).cell 6; have c7 := (hw'.bl _ (.head _)).cell 7; have c8 := (hw'.bl _ (.head _)).cell 8; have c9 := (hw'.bl _ (.head _)).cell 9; have c10 := (hw'.bl _ (.head _)).cell 10; have c11 := (hw'.bl _ (.head _)).cell 11; go_simp)) hH2 ?_
            refine wpAnyH_ready (rs := [16]) (by kernel_rfl) (by simp) ?_
            refine AllReadyH.cons rfl (fun K hK => ?_) AllReadyH.nil
            go_simp
            go_at_call 20
            refine (HA.out _).mono ?_
            rintro e w16 ⟨rfl, hd16⟩
            go_wp2_with fail
            refine hK.out _ _ (hH2.on hd16) (fun hH3 => ?_)
            clear hK K
            refine wpAnyH_ready (rs := [18]) (by kernel_rfl) (by simp) ?_
            refine AllReadyH.cons rfl (fun K hK => ?_) AllReadyH.nil
            go_simp
            go_at_call 21
            refine (HRA.out _).mono ?_
            rintro e w18 ⟨rfl, hd18⟩
            go_wp2_with fail
            refine hK.out _ _ (hH3.on hd18) (fun hH4 => ?_)
            clear hK K
            refine wpAnyH_take (i := 19) (v := .bool false) rfl (by kernel_rfl) (by kernel_rfl) (by kernel_rfl) (fun _ _ _ h => h) (yk_bin (by kernel_rfl) _ _ _ _ _ rfl (.string ar0) (.string ar0) (by kernel_rfl) (by kernel_rfl) _ (fun w' hw' => by go_simp)) hH4 ?_
            refine wpAnyH_take (i := 20) (v := .bool false) rfl (by kernel_rfl) (by kernel_rfl) (by kernel_rfl) (fun _ _ _ h => h) (yk_pick (by kernel_rfl) _ _ _ rfl false (by kernel_rfl) _ (by kernel_rfl)) hH4 ?_
            refine wpAnyH_done (by kernel_rfl) ?_ _
            have hbz := hH4.hb
            replace k_x := k_x.on hbz
            replace k_d := k_d.on hbz
            replace k_p := k_p.on hbz
            replace e_x := Lib.hid (e_x.out.on hbz)
            replace e_d := Lib.hid (e_d.out.on hbz)
            replace e_r := Lib.hid (e_r.out.on hbz)
            replace e_y := Lib.hid (e_y.out.on hbz)
            replace BB := BW_on BB hbz
            clear hH0 hH1 hH2 hH3 hH4 hbz hd9 hd11 hd16 hd18 HH HRH HA HRA
            by_cases hx : x = 0
            · have c_x := fun i => k_x.cell i
              have c_d := fun i => k_d.cell i
              have f_d := fun i => k_d.free i
              have xe := Lib.hid (e_x.out.box k_d (.slice q5 M.length c5))
              have xy := Lib.hid (e_y.out.box k_d (.slice q5 M.length c5))
              have xb := BW_off (p := ⟨w3.heap.size, 0, none⟩) hwd (.slice q5 M.length c5) BB
              have xd := k_d.set_ 0 (.slice q5 M.length c5)
              clear BB k_d k_p e_d e_r e_x e_y
              go_wp2_with fail
              go_roundw
              case rel => exact ⟨k + 1, q5, c5, q6, c6, M, by omega, by omega, by first | rfl | (rw [Hk3.out]; rfl), rfl, hsM, by omega, xe, xy, xd, xb⟩
              case measure => simp [intOf]; omega
            · go_wp2_with fail
              go_roundw
              case rel => exact ⟨k + 1, q, c, q2, c2, E, by omega, by omega, by first | rfl | (rw [Hk3.out]; rfl), rfl, hs, by omega, e_d, e_r, k_d, BB⟩
              case measure => simp [intOf]; omega
          · rcases hR : refundL E oq oh ot S K D F G on with ⟨x, M⟩
            have HS := fun v w hv => refund_any v E oq oh ot S K D F G on w hv hs.out (by omega) (by omega) (by omega) (by omega) (by omega) (by omega) ohn
            rw [hR] at HS
            replace HS := Lib.hid HS
            have HR := fun v w hv => rrefund_any v E oq oh ot S K D F G on w hv hs.out (by omega) (by omega) (by omega) (by omega) (by omega) (by omega) ohn
            rw [hR] at HR
            replace HR := Lib.hid HR
            have hinv := refund_inv hs.out oq oh ot S K D F G on
            rw [hR] at hinv
            have hsM : Hid (Srt M) := hinv.1
            have hlM : M.length ≤ E.length + 2 := hinv.2
            clear hinv hR
            go_upto_region 12 with (fail)
            change Code.wp _ _ _ _ (wc.alloc (.cells #[.slice none 0 0] 27))
            replace k_d := k_d.on (BW_alloc (BW_refl _) (.cells #[.slice none 0 0] 27))
            replace k_p := k_p.on (BW_alloc (BW_refl _) (.cells #[.slice none 0 0] 27))
            replace e_d := Lib.hid (e_d.out.on (BW_alloc (BW_refl _) (.cells #[.slice none 0 0] 27)))
            replace e_r := Lib.hid (e_r.out.on (BW_alloc (BW_refl _) (.cells #[.slice none 0 0] 27)))
            replace BB := BW_on BB (BW_alloc (BW_refl _) (.cells #[.slice none 0 0] 27))
            have k_x := blk1 wc 27 #[.slice none 0 0]
            generalize hW : wc.alloc (.cells #[.slice none 0 0] 27) = W at *
            clear hW
            have c_d := fun i => k_d.cell i
            have c_p := fun i => k_p.cell i
            go_wp2_with fail
            refine (HS.out _ _ e_d.out).mono ?_
            rintro e w5 ⟨q5, c5, rfl, hen, hb⟩
            clear c_d c_p
            replace k_d := k_d.on hb
            replace k_p := k_p.on hb
            replace k_x := k_x.on hb
            replace e_d := Lib.hid (e_d.out.on hb)
            replace e_r := Lib.hid (e_r.out.on hb)
            replace BB := BW_on BB hb
            clear hb HS
            have xe := Lib.hid (hen.box k_x (.slice q5 M.length c5))
            have xde := Lib.hid (e_d.out.box k_x (.slice q5 M.length c5))
            have xre := Lib.hid (e_r.out.box k_x (.slice q5 M.length c5))
            have xx := k_x.set_ 0 (.slice q5 M.length c5)
            have xd := k_d.far (p := ⟨wc.heap.size, 0, none⟩) (by show w3.heap.size ≠ wc.heap.size; omega) (.slice q5 M.length c5)
            have xp := k_p.far (p := ⟨wc.heap.size, 0, none⟩) (by show w4.heap.size ≠ wc.heap.size; omega) (.slice q5 M.length c5)
            have xb := BB.setCell (p := ⟨wc.heap.size, 0, none⟩) (by show w.heap.size ≤ wc.heap.size; omega) (.slice q5 M.length c5)
            have c_x := fun i => k_x.cell i
            have f_x := fun i => k_x.free i
            go_upto_region 17 with (fail)
            change Code.wp _ _ _ _ (w5.setCell ⟨wc.heap.size, 0, none⟩ (.slice q5 M.length c5))
            clear c_x f_x k_x k_d k_p e_d e_r BB hen
            generalize w5.setCell ⟨wc.heap.size, 0, none⟩ (.slice q5 M.length c5) = W7 at *
            have k_x := xx
            have k_d := xd
            have k_p := xp
            have BB := xb
            have e_x := xe
            have e_d := xde
            have e_r := xre
            clear xx xd xp xb xe xde xre
            have c_p := fun i => k_p.cell i
            go_wp2_with fail
            refine (HR.out _ _ e_r.out).mono ?_
            rintro e w6 ⟨v6, rfl, hen, hb⟩
            clear c_p
            replace k_x := k_x.on hb
            replace k_d := k_d.on hb
            replace k_p := k_p.on hb
            replace e_x := Lib.hid (e_x.out.on hb)
            replace e_d := Lib.hid (e_d.out.on hb)
            replace e_r := Lib.hid (e_r.out.on hb)
            replace BB := BW_on BB hb
            obtain ⟨q6, c6, rfl⟩ := hen.len
            have e_y := Lib.hid hen
            clear hen hb HR
            have c_x := fun i => k_x.cell i
            go_wp2_with fail
            refine (all_any _ M _ e_x.out (by omega)).mono ?_
            rintro e w7 ⟨va, rfl, hown, hb⟩
            clear c_x
            replace k_x := k_x.on hb
            replace k_d := k_d.on hb
            replace k_p := k_p.on hb
            replace e_x := Lib.hid (e_x.out.on hb)
            replace e_d := Lib.hid (e_d.out.on hb)
            replace e_r := Lib.hid (e_r.out.on hb)
            replace e_y := Lib.hid (e_y.out.on hb)
            replace BB := BW_on BB hb
            have e_a : Hid (Ents w7 va M) := own_ents hown
            clear hown hb
            go_wp2_with fail
            refine (rsame_any _ _ M M _ e_a.out e_y.out (by omega) (by omega)).mono ?_
            rintro e w8 ⟨rfl, hb⟩
            replace k_x := k_x.on hb
            replace k_d := k_d.on hb
            replace k_p := k_p.on hb
            replace e_x := Lib.hid (e_x.out.on hb)
            replace e_d := Lib.hid (e_d.out.on hb)
            replace e_r := Lib.hid (e_r.out.on hb)
            replace e_y := Lib.hid (e_y.out.on hb)
            replace BB := BW_on BB hb
            rw [decide_eq_true rfl]
            clear hb e_a
            have HH := Lib.hid (fun w => home17_any oq oh ot S K D F G on w (by omega) (by omega))
            have HRH := Lib.hid (fun w => rhome17_any oq oh ot S K D F G on w (by omega) (by omega))
            have HA := Lib.hid (fun w => arr17_any oq oh ot S K D F G on w (by omega) (by omega) (by omega))
            have HRA := Lib.hid (fun w => rarr17_any oq oh ot S K D F G on w (by omega) (by omega) (by omega))
            generalize homeB S D = hb0 at *
            generalize arrB S K D = ar0 at *
            go_upto_region 25 with (fail)
            refine wp_region_held_drew (S := BxS w8 [(w4.heap.size, 35, #[.int .i64 oq, .string S, .string K, .string D, .int .u64 (limb on 0), .int .u64 (limb on 1), .int .u64 (limb on 2), .int .u64 (limb on 3), .string F, .string G, .int .i64 oh, .int .i64 ot])]) (by kernel_rfl) (((BxS.nil (BW_refl w8)).cons k_p)).drew (fun hH0 => ?_)
            refine wpAnyH_take (i := 0) (v := .bool true) rfl (by kernel_rfl) (by kernel_rfl) (by kernel_rfl) (fun _ _ _ h => h) (yk_move (by kernel_rfl) _ rfl _ (by kernel_rfl)) hH0 ?_
            refine wpAnyH_take (i := 1) (v := .bool false) rfl (by kernel_rfl) (by kernel_rfl) (by kernel_rfl) (fun _ _ _ h => h) (yk_un (by kernel_rfl) _ _ _ rfl (.bool true) (by kernel_rfl) _ (fun w' hw' => by go_simp)) hH0 ?_
            refine wpAnyH_take (i := 2) (v := .bool false) rfl (by kernel_rfl) (by kernel_rfl) (by kernel_rfl) (fun _ _ _ h => h) (yk_move (by kernel_rfl) _ rfl _ (by kernel_rfl)) hH0 ?_
            refine wpAnyH_take (i := 3) (v := .int .i64 x) rfl (by kernel_rfl) (by kernel_rfl) (by kernel_rfl) (fun _ _ _ h => h) (yk_move (by kernel_rfl) _ rfl _ (by kernel_rfl)) hH0 ?_
            refine wpAnyH_take (i := 4) (v := .int .i64 x) rfl (by kernel_rfl) (by kernel_rfl) (by kernel_rfl) (fun _ _ _ h => h) (yk_move (by kernel_rfl) _ rfl _ (by kernel_rfl)) hH0 ?_
            refine wpAnyH_take (i := 5) (v := .bool false) rfl (by kernel_rfl) (by kernel_rfl) (by kernel_rfl) (fun _ _ _ h => h) (yk_bin (by kernel_rfl) _ _ _ _ _ rfl (.int .i64 x) (.int .i64 x) (by kernel_rfl) (by kernel_rfl) _ (fun w' hw' => by go_simp)) hH0 ?_
            refine wpAnyH_take (i := 6) (v := .bool false) rfl (by kernel_rfl) (by kernel_rfl) (by kernel_rfl) (fun _ _ _ h => h) (yk_pick (by kernel_rfl) _ _ _ rfl false (by kernel_rfl) _ (by kernel_rfl)) hH0 ?_
            refine wpAnyH_take (i := 7) (v := .bool false) rfl (by kernel_rfl) (by kernel_rfl) (by kernel_rfl) (fun _ _ _ h => h) (yk_move (by kernel_rfl) _ rfl _ (by kernel_rfl)) hH0 ?_
            refine wpAnyH_take (i := 8) (v := .agg #[.int .i64 oq, .string S, .string K, .string D, .int .u64 (limb on 0), .int .u64 (limb on 1), .int .u64 (limb on 2), .int .u64 (limb on 3), .string F, .string G, .int .i64 oh, .int .i64 ot]) rfl (by kernel_rfl) (by kernel_rfl) (by kernel_rfl) (fun _ _ _ h => h) (yk_load (by kernel_rfl) _ _ rfl (.pointer (some ⟨w4.heap.size, 0, none⟩)) (by kernel_rfl) _ (fun w' hw' => by have c0 := (hw'.bl _ (.head _)).cell 0; have c1 := (hw'.bl _ (.head _)).cell 1; have c2 := (hw'.bl _ (.head _)).cell 2; have c3 := (hw'.bl _ (.head _)).cell 3; have c4 := (hw'.bl _ (.head _)).cell 4; have c5 := (hw'.bl _ (.head _)).cell 5; have c6 := (hw'.bl _ (.head _)).cell 6; have c7 := (hw'.bl _ (.head _)).cell 7; have c8 := (hw'.bl _ (.head _)).cell 8; have c9 := (hw'.bl _ (.head _)).cell 9; have c10 := (hw'.bl _ (.head _)).cell 10; have c11 := (hw'.bl _ (.head _)).cell 11; go_simp)) hH0 ?_
            refine wpAnyH_take (i := 10) (v := .agg #[.int .i64 oq, .string S, .string K, .string D, .int .u64 (limb on 0), .int .u64 (limb on 1), .int .u64 (limb on 2), .int .u64 (limb on 3), .string F, .string G, .int .i64 oh, .int .i64 ot]) rfl (by kernel_rfl) (by kernel_rfl) (by kernel_rfl) (fun _ _ _ h => h) (yk_load (by kernel_rfl) _ _ rfl (.pointer (some ⟨w4.heap.size, 0, none⟩)) (by kernel_rfl) _ (fun w' hw' => by have c0 := (hw'.bl _ (.head _)).cell 0; have c1 := (hw'.bl _ (.head _)).cell 1; have c2 := (hw'.bl _ (.head _)).cell 2; have c3 := (hw'.bl _ (.head _)).cell 3; have c4 := (hw'.bl _ (.head _)).cell 4; have c5 := (hw'.bl _ (.head _)).cell 5; have c6 := (hw'.bl _ (.head _)).cell 6; have c7 := (hw'.bl _ (.head _)).cell 7; have c8 := (hw'.bl _ (.head _)).cell 8; have c9 := (hw'.bl _ (.head _)).cell 9; have c10 := (hw'.bl _ (.head _)).cell 10; have c11 := (hw'.bl _ (.head _)).cell 11; go_simp)) hH0 ?_
            refine wpAnyH_ready (rs := [9]) (by kernel_rfl) (by simp) ?_
            refine AllReadyH.cons rfl (fun K hK => ?_) AllReadyH.nil
            go_simp
            go_at_call 18
            refine (HH.out _).mono ?_
            rintro e w9 ⟨rfl, hd9⟩
            go_wp2_with fail
            refine hK.out _ _ (hH0.on hd9) (fun hH1 => ?_)
            clear hK K
            refine wpAnyH_ready (rs := [11]) (by kernel_rfl) (by simp) ?_
            refine AllReadyH.cons rfl (fun K hK => ?_) AllReadyH.nil
            go_simp
            go_at_call 19
            refine (HRH.out _).mono ?_
            rintro e w11 ⟨rfl, hd11⟩
            go_wp2_with fail
            refine hK.out _ _ (hH1.on hd11) (fun hH2 => ?_)
            clear hK K
            refine wpAnyH_take (i := 12) (v := .bool false) rfl (by kernel_rfl) (by kernel_rfl) (by kernel_rfl) (fun _ _ _ h => h) (yk_bin (by kernel_rfl) _ _ _ _ _ rfl (.bool hb0) (.bool hb0) (by kernel_rfl) (by kernel_rfl) _ (fun w' hw' => by cases hb0 <;> go_simp)) hH2 ?_
            refine wpAnyH_take (i := 13) (v := .bool false) rfl (by kernel_rfl) (by kernel_rfl) (by kernel_rfl) (fun _ _ _ h => h) (yk_pick (by kernel_rfl) _ _ _ rfl false (by kernel_rfl) _ (by kernel_rfl)) hH2 ?_
            refine wpAnyH_take (i := 14) (v := .bool false) rfl (by kernel_rfl) (by kernel_rfl) (by kernel_rfl) (fun _ _ _ h => h) (yk_move (by kernel_rfl) _ rfl _ (by kernel_rfl)) hH2 ?_
            refine wpAnyH_take (i := 15) (v := .agg #[.int .i64 oq, .string S, .string K, .string D, .int .u64 (limb on 0), .int .u64 (limb on 1), .int .u64 (limb on 2), .int .u64 (limb on 3), .string F, .string G, .int .i64 oh, .int .i64 ot]) rfl (by kernel_rfl) (by kernel_rfl) (by kernel_rfl) (fun _ _ _ h => h) (yk_load (by kernel_rfl) _ _ rfl (.pointer (some ⟨w4.heap.size, 0, none⟩)) (by kernel_rfl) _ (fun w' hw' => by have c0 := (hw'.bl _ (.head _)).cell 0; have c1 := (hw'.bl _ (.head _)).cell 1; have c2 := (hw'.bl _ (.head _)).cell 2; have c3 := (hw'.bl _ (.head _)).cell 3; have c4 := (hw'.bl _ (.head _)).cell 4; have c5 := (hw'.bl _ (.head _)).cell 5; have c6 := (hw'.bl _ (.head _)).cell 6; have c7 := (hw'.bl _ (.head _)).cell 7; have c8 := (hw'.bl _ (.head _)).cell 8; have c9 := (hw'.bl _ (.head _)).cell 9; have c10 := (hw'.bl _ (.head _)).cell 10; have c11 := (hw'.bl _ (.head _)).cell 11; go_simp)) hH2 ?_
            refine wpAnyH_take (i := 17) (v := .agg #[.int .i64 oq, .string S, .string K, .string D, .int .u64 (limb on 0), .int .u64 (limb on 1), .int .u64 (limb on 2), .int .u64 (limb on 3), .string F, .string G, .int .i64 oh, .int .i64 ot]) rfl (by kernel_rfl) (by kernel_rfl) (by kernel_rfl) (fun _ _ _ h => h) (yk_load (by kernel_rfl) _ _ rfl (.pointer (some ⟨w4.heap.size, 0, none⟩)) (by kernel_rfl) _ (fun w' hw' => by have c0 := (hw'.bl _ (.head _)).cell 0; have c1 := (hw'.bl _ (.head _)).cell 1; have c2 := (hw'.bl _ (.head _)).cell 2; have c3 := (hw'.bl _ (.head _)).cell 3; have c4 := (hw'.bl _ (.head _)).cell 4; have c5 := (hw'.bl _ (.head _)).cell 5; have c6 := (hw'.bl _ (.head _)).cell 6; have c7 := (hw'.bl _ (.head _)).cell 7; have c8 := (hw'.bl _ (.head _)).cell 8; have c9 := (hw'.bl _ (.head _)).cell 9; have c10 := (hw'.bl _ (.head _)).cell 10; have c11 := (hw'.bl _ (.head _)).cell 11; go_simp)) hH2 ?_
            refine wpAnyH_ready (rs := [16]) (by kernel_rfl) (by simp) ?_
            refine AllReadyH.cons rfl (fun K hK => ?_) AllReadyH.nil
            go_simp
            go_at_call 20
            refine (HA.out _).mono ?_
            rintro e w16 ⟨rfl, hd16⟩
            go_wp2_with fail
            refine hK.out _ _ (hH2.on hd16) (fun hH3 => ?_)
            clear hK K
            refine wpAnyH_ready (rs := [18]) (by kernel_rfl) (by simp) ?_
            refine AllReadyH.cons rfl (fun K hK => ?_) AllReadyH.nil
            go_simp
            go_at_call 21
            refine (HRA.out _).mono ?_
            rintro e w18 ⟨rfl, hd18⟩
            go_wp2_with fail
            refine hK.out _ _ (hH3.on hd18) (fun hH4 => ?_)
            clear hK K
            refine wpAnyH_take (i := 19) (v := .bool false) rfl (by kernel_rfl) (by kernel_rfl) (by kernel_rfl) (fun _ _ _ h => h) (yk_bin (by kernel_rfl) _ _ _ _ _ rfl (.string ar0) (.string ar0) (by kernel_rfl) (by kernel_rfl) _ (fun w' hw' => by go_simp)) hH4 ?_
            refine wpAnyH_take (i := 20) (v := .bool false) rfl (by kernel_rfl) (by kernel_rfl) (by kernel_rfl) (fun _ _ _ h => h) (yk_pick (by kernel_rfl) _ _ _ rfl false (by kernel_rfl) _ (by kernel_rfl)) hH4 ?_
            refine wpAnyH_done (by kernel_rfl) ?_ _
            have hbz := hH4.hb
            replace k_x := k_x.on hbz
            replace k_d := k_d.on hbz
            replace k_p := k_p.on hbz
            replace e_x := Lib.hid (e_x.out.on hbz)
            replace e_d := Lib.hid (e_d.out.on hbz)
            replace e_r := Lib.hid (e_r.out.on hbz)
            replace e_y := Lib.hid (e_y.out.on hbz)
            replace BB := BW_on BB hbz
            clear hH0 hH1 hH2 hH3 hH4 hbz hd9 hd11 hd16 hd18 HH HRH HA HRA
            by_cases hx : x = 0
            · have c_x := fun i => k_x.cell i
              have c_d := fun i => k_d.cell i
              have f_d := fun i => k_d.free i
              have xe := Lib.hid (e_x.out.box k_d (.slice q5 M.length c5))
              have xy := Lib.hid (e_y.out.box k_d (.slice q5 M.length c5))
              have xb := BW_off (p := ⟨w3.heap.size, 0, none⟩) hwd (.slice q5 M.length c5) BB
              have xd := k_d.set_ 0 (.slice q5 M.length c5)
              clear BB k_d k_p e_d e_r e_x e_y
              go_wp2_with fail
              go_roundw
              case rel => exact ⟨k + 1, q5, c5, q6, c6, M, by omega, by omega, by first | rfl | (rw [Hk3.out]; rfl), rfl, hsM, by omega, xe, xy, xd, xb⟩
              case measure => simp [intOf]; omega
            · go_wp2_with fail
              go_roundw
              case rel => exact ⟨k + 1, q, c, q2, c2, E, by omega, by omega, by first | rfl | (rw [Hk3.out]; rfl), rfl, hs, by omega, e_d, e_r, k_d, BB⟩
              case measure => simp [intOf]; omega
    · have hout : ¬ ((k : Int) < (L.length : Int)) ∨ (k = 20 ∧ (k : Int) < (L.length : Int)) := by omega
      clear hlt hk hl
      rcases hout with hk1 | ⟨rfl, hk1⟩
      · go_wp2_with fail
        go_ret
        exact ⟨rfl, BB⟩
      · go_wp2_with fail
        go_ret
        exact ⟨rfl, BB⟩
end Go.Proofs.YtpcdgljcpacpiaaGreatDoor

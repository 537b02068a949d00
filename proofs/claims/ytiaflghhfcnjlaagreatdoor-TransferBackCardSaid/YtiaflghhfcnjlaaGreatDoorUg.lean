/- The law TransferBack's walk: what is sent and given back leaves the map as it was. -/
import Derived.Test.YtiaflghhfcnjlaaGreatDoorUe
import Derived.Test.YtiaflghhfcnjlaaGreatDoorUf
set_option maxRecDepth 20000
namespace Go.Proofs.YtiaflghhfcnjlaaGreatDoor
open Go.RowKit
attribute [local go_sem ↓] Go.wp_at_zero Go.wp_at_succ
set_option maxHeartbeats 16000000 in
set_option maxRecDepth 100000 in
theorem l17back_any (p0 : Option Addr) (cap : Nat) (L : List StpT) (pq ph pt : Int) (ps pk pd pf pg : ByteArray) (pn : Nat) (hpn : W256 pn) (w : World) (hL : L.length ≤ 9223372036854775807) (Hop : Hid (0 < L.length → ∃ g off, p0 = some ⟨g, off, none⟩ ∧ StpC w g off L)) :
    Calls Tryz.prog 8 #[.slice p0 L.length cap, .agg #[.int .i64 pq, .string ps, .string pk, .string pd, .int .u64 (limb pn 0), .int .u64 (limb pn 1), .int .u64 (limb pn 2), .int .u64 (limb pn 3), .string pf, .string pg, .int .i64 ph, .int .i64 pt]] w fun e w' => e = .returned (.bool true) ∧ Below w.heap.size w w' := by
  have HO := fun v w hv => of_any v S17 w hv (by have := S17_len; omega)
  rw [st_of] at HO
  replace HO := Lib.hid HO
  have k_p := blk1 w 34 #[.int .i64 pq, .string ps, .string pk, .string pd, .int .u64 (limb pn 0), .int .u64 (limb pn 1), .int .u64 (limb pn 2), .int .u64 (limb pn 3), .string pf, .string pg, .int .i64 ph, .int .i64 pt]
  have BB := BW_alloc (BW_refl w) (.cells #[.int .i64 pq, .string ps, .string pk, .string pd, .int .u64 (limb pn 0), .int .u64 (limb pn 1), .int .u64 (limb pn 2), .int .u64 (limb pn 3), .string pf, .string pg, .int .i64 ph, .int .i64 pt] 34)
  go_enter Tryz.func8, Tryz.ntmps8
  go_wp2_with fail
  refine (awake17_any _).mono ?_
  rintro e w1 ⟨rfl, hb⟩
  replace k_p := k_p.on hb
  replace BB := BW_on BB hb
  clear hb
  go_wp2_with fail
  refine (start17_any _).mono ?_
  rintro e w2 ⟨vs, rfl, hst, hb⟩
  replace k_p := k_p.on hb
  replace BB := BW_on BB hb
  have e_s := Lib.hid hst
  clear hst hb
  go_wp2_with fail
  refine (HO.out _ _ e_s.out).mono ?_
  rintro e w3 ⟨vd, rfl, hd, hb⟩
  clear e_s
  replace k_p := k_p.on hb
  replace BB := BW_on BB hb
  obtain ⟨q0, c0, rfl⟩ := hd.len
  have e_d := Lib.hid hd
  clear hd hb HO
  have hgpd : w.heap.size < w3.heap.size := k_p.lt
  have hwd := BB.size
  have hl0 : S17.length ≤ 4 := S17_len
  have hs0 : Hid (Srt S17) := S17_srt
  have hb0 : Hid (BkO S17) := S17_bko
  go_wp2_with fail
  replace k_p := k_p.on (BW_alloc (BW_refl _) (.cells #[.slice q0 S17.length c0] 26))
  replace e_d := Lib.hid (e_d.out.on (BW_alloc (BW_refl _) (.cells #[.slice q0 S17.length c0] 26)))
  replace BB := BW_on BB (BW_alloc (BW_refl _) (.cells #[.slice q0 S17.length c0] 26))
  have k_d := blk1 w3 26 #[.slice q0 S17.length c0]
  generalize S17 = E0 at *
  go_loopw [7] (fun i wr => ∃ (k : Nat) (q : Option Addr) (c : Nat) (E : List Ent), k ≤ L.length ∧ k ≤ 8 ∧ i = .int .i64 (k : Int) ∧ Hid (Srt E) ∧ Hid (BkO E) ∧ E.length ≤ 4 + 2 * k ∧ Hid (Ents wr (.slice q E.length c) E) ∧ Blk wr w3.heap.size 26 #[.slice q E.length c] ∧ Blk wr w.heap.size 34 #[.int .i64 pq, .string ps, .string pk, .string pd, .int .u64 (limb pn 0), .int .u64 (limb pn 1), .int .u64 (limb pn 2), .int .u64 (limb pn 3), .string pf, .string pg, .int .i64 ph, .int .i64 pt] ∧ Below w.heap.size w wr) (fun i _ => (9 - intOf i).toNat)
  case atStart => exact ⟨0, q0, c0, E0, by omega, by omega, rfl, hs0, hb0, by omega, e_d, k_d, k_p, BB⟩
  case round =>
    clear k_p k_d BB e_d hs0 hb0 hl0
    obtain ⟨k, q, c, E, hk, hk8, rfl, hs, hbk, hl, e_d, k_d, k_p, BB⟩ := hrel
    by_cases hlt : k < L.length ∧ k < 8
    · obtain ⟨hlt1, hlt2⟩ := hlt
      obtain ⟨g, off, rfl, hop⟩ := Hop.out (by omega)
      have ho := (hop.on BB) k hlt1
      have hk1 : (k : Int) < (L.length : Int) := by omega
      have hk2 : (k : Int) < 8 := by omega
      have Hk3 : Hid (wrap64 ((k : Int) + 1) = (k : Int) + 1) := Lib.hid (by unfold wrap64; omega)
      clear hop
      obtain ⟨o, hoe⟩ : ∃ o, o = L[k] := ⟨_, rfl⟩
      rw [← hoe] at ho
      clear hoe
      obtain ⟨okd, oq, oh, ot, os, ok', od, of, og, on, ohn⟩ := o
      have o0 : wr.cell? ⟨g, off + k * 13, none⟩ = some (.int .i64 okd) := ho 0 (by decide)
      have o1 : wr.cell? ⟨g, off + k * 13 + 1, none⟩ = some (.int .i64 oq) := ho 1 (by decide)
      have o2 : wr.cell? ⟨g, off + k * 13 + 2, none⟩ = some (.string os) := ho 2 (by decide)
      have o3 : wr.cell? ⟨g, off + k * 13 + 3, none⟩ = some (.string ok') := ho 3 (by decide)
      have o4 : wr.cell? ⟨g, off + k * 13 + 4, none⟩ = some (.string od) := ho 4 (by decide)
      have o5 : wr.cell? ⟨g, off + k * 13 + 5, none⟩ = some (.int .u64 (limb on 0)) := ho 5 (by decide)
      have o6 : wr.cell? ⟨g, off + k * 13 + 6, none⟩ = some (.int .u64 (limb on 1)) := ho 6 (by decide)
      have o7 : wr.cell? ⟨g, off + k * 13 + 7, none⟩ = some (.int .u64 (limb on 2)) := ho 7 (by decide)
      have o8 : wr.cell? ⟨g, off + k * 13 + 8, none⟩ = some (.int .u64 (limb on 3)) := ho 8 (by decide)
      have o9 : wr.cell? ⟨g, off + k * 13 + 9, none⟩ = some (.string of) := ho 9 (by decide)
      have o10 : wr.cell? ⟨g, off + k * 13 + 10, none⟩ = some (.string og) := ho 10 (by decide)
      have o11 : wr.cell? ⟨g, off + k * 13 + 11, none⟩ = some (.int .i64 oh) := ho 11 (by decide)
      have o12 : wr.cell? ⟨g, off + k * 13 + 12, none⟩ = some (.int .i64 ot) := ho 12 (by decide)
      clear ho
      have zS := shN_size os 70
      have zK := shN_size ok' 70
      have zD := shN_size od 210
      have zF := shN_size of 70
      have zG := shN_size og 70
      go_wp2_with fail
      refine (small17_any oq oh ot _ _ _ _ os ok' od of og _).mono ?_
      rintro e w4 ⟨rfl, hb⟩
      have O0 := BW_cell hb o0
      clear o0 o1 o2 o3 o4 o5 o6 o7 o8 o9 o10 o11 o12
      replace k_d := k_d.on hb
      replace k_p := k_p.on hb
      replace e_d := Lib.hid (e_d.out.on hb)
      replace BB := BW_on BB hb
      generalize shN os 70 = S at *
      generalize shN ok' 70 = K at *
      generalize shN od 210 = D at *
      generalize shN of 70 = F at *
      generalize shN og 70 = G at *
      clear hb
      have hz34 : w3.heap.size < w4.heap.size := k_d.lt
      replace O0 := BW_cell (BW_alloc (BW_refl _) (.cells #[.int .i64 oq, .string S, .string K, .string D, .int .u64 (limb on 0), .int .u64 (limb on 1), .int .u64 (limb on 2), .int .u64 (limb on 3), .string F, .string G, .int .i64 oh, .int .i64 ot] 34)) O0
      replace k_d := k_d.on (BW_alloc (BW_refl _) (.cells #[.int .i64 oq, .string S, .string K, .string D, .int .u64 (limb on 0), .int .u64 (limb on 1), .int .u64 (limb on 2), .int .u64 (limb on 3), .string F, .string G, .int .i64 oh, .int .i64 ot] 34))
      replace k_p := k_p.on (BW_alloc (BW_refl _) (.cells #[.int .i64 oq, .string S, .string K, .string D, .int .u64 (limb on 0), .int .u64 (limb on 1), .int .u64 (limb on 2), .int .u64 (limb on 3), .string F, .string G, .int .i64 oh, .int .i64 ot] 34))
      replace e_d := Lib.hid (e_d.out.on (BW_alloc (BW_refl _) (.cells #[.int .i64 oq, .string S, .string K, .string D, .int .u64 (limb on 0), .int .u64 (limb on 1), .int .u64 (limb on 2), .int .u64 (limb on 3), .string F, .string G, .int .i64 oh, .int .i64 ot] 34)))
      replace BB := BW_on BB (BW_alloc (BW_refl _) (.cells #[.int .i64 oq, .string S, .string K, .string D, .int .u64 (limb on 0), .int .u64 (limb on 1), .int .u64 (limb on 2), .int .u64 (limb on 3), .string F, .string G, .int .i64 oh, .int .i64 ot] 34))
      have k_q := blk1 w4 34 #[.int .i64 oq, .string S, .string K, .string D, .int .u64 (limb on 0), .int .u64 (limb on 1), .int .u64 (limb on 2), .int .u64 (limb on 3), .string F, .string G, .int .i64 oh, .int .i64 ot]
      rcases hR : sendL E oq oh ot S K D F G on with ⟨x, M⟩
      have HS := fun v w hv => send_any v E oq oh ot S K D F G on w hv hs.out (by omega) (by omega) (by omega) (by omega) (by omega) (by omega) ohn
      rw [hR] at HS
      replace HS := Lib.hid HS
      have hinv := send_inv hs.out oq oh ot S K D F G on
      rw [hR] at hinv
      have hsM : Hid (Srt M) := hinv.1
      have hlM : M.length ≤ E.length + 2 := hinv.2
      have hbM : Hid (x = 0 → BkO M) := Lib.hid (fun hx => by subst hx; exact send_bko hs.out hbk.out hR)
      clear hinv hR
      have c_d := fun i => k_d.cell i
      have c_q := fun i => k_q.cell i
      go_wp2_with fail
      refine (HS.out _ _ e_d.out).mono ?_
      rintro e w5 ⟨q5, c5, rfl, hen, hb⟩
      clear c_d c_q
      replace k_d := k_d.on hb
      replace k_p := k_p.on hb
      replace k_q := k_q.on hb
      have hz45 : w4.heap.size < w5.heap.size := k_q.lt
      replace e_d := Lib.hid (e_d.out.on hb)
      replace BB := BW_on BB hb
      replace k_d := k_d.on (BW_alloc (BW_refl _) (.cells #[.slice q5 M.length c5] 26))
      replace k_p := k_p.on (BW_alloc (BW_refl _) (.cells #[.slice q5 M.length c5] 26))
      replace k_q := k_q.on (BW_alloc (BW_refl _) (.cells #[.slice q5 M.length c5] 26))
      replace e_d := Lib.hid (e_d.out.on (BW_alloc (BW_refl _) (.cells #[.slice q5 M.length c5] 26)))
      replace BB := BW_on BB (BW_alloc (BW_refl _) (.cells #[.slice q5 M.length c5] 26))
      have k_x := blk1 w5 26 #[.slice q5 M.length c5]
      replace O0 := BW_cell hb O0
      replace O0 := BW_cell (BW_alloc (BW_refl _) (.cells #[.slice q5 M.length c5] 26)) O0
      have e_x := Lib.hid (hen.on (BW_alloc (BW_refl _) (.cells #[.slice q5 M.length c5] 26)))
      clear hen hb HS
      by_cases hkd : bits .and .i64 okd 1 = 1
      · rcases hR : recvL E oq oh ot S K D F G on with ⟨y, N⟩
        have HS := fun v w hv => recv_any v E oq oh ot S K D F G on w hv hs.out (by omega) (by omega) (by omega) (by omega) (by omega) (by omega) ohn
        rw [hR] at HS
        replace HS := Lib.hid HS
        have hinv := recv_inv hs.out oq oh ot S K D F G on
        rw [hR] at hinv
        have hsN : Hid (Srt N) := hinv.1
        have hlN : N.length ≤ E.length + 2 := hinv.2
        have hbN : Hid (y = 0 → BkO N) := Lib.hid (fun hx => by subst hx; exact recv_bko hs.out hbk.out hR)
        clear hinv hR hsM hlM hbM e_x
        have c_d := fun i => k_d.cell i
        have c_q := fun i => k_q.cell i
        go_wp2_with fail
        refine (HS.out _ _ e_d.out).mono ?_
        rintro e w6 ⟨q6, c6, rfl, hen, hb⟩
        clear c_d c_q
        replace k_d := k_d.on hb
        replace k_p := k_p.on hb
        replace k_q := k_q.on hb
        replace k_x := k_x.on hb
        replace e_d := Lib.hid (e_d.out.on hb)
        replace BB := BW_on BB hb
        clear O0 hb HS
        have hxd : w5.heap.size ≠ w3.heap.size ∧ w5.heap.size ≠ w.heap.size ∧ w.heap.size ≤ w5.heap.size ∧ w5.heap.size ≠ w4.heap.size := by omega
        obtain ⟨hxd1, hxd2, hxd3, hxd4⟩ := hxd
        have xe := Lib.hid (hen.box k_x (.slice q6 N.length c6))
        have xde := Lib.hid (e_d.out.box k_x (.slice q6 N.length c6))
        have xx := k_x.set_ 0 (.slice q6 N.length c6)
        have xd := k_d.far (p := ⟨w5.heap.size, 0, none⟩) hxd1.symm (.slice q6 N.length c6)
        have xp := k_p.far (p := ⟨w5.heap.size, 0, none⟩) hxd2.symm (.slice q6 N.length c6)
        have xb := BB.setCell (p := ⟨w5.heap.size, 0, none⟩) hxd3 (.slice q6 N.length c6)
        have c_x := fun i => k_x.cell i
        have f_x := fun i => k_x.free i
        go_upto_region 10 with (fail)
        change Code.wp _ _ _ _ (w6.setCell ⟨w5.heap.size, 0, none⟩ (.slice q6 N.length c6))
        clear c_x f_x k_x k_d k_p k_q e_d BB hen
        generalize w6.setCell ⟨w5.heap.size, 0, none⟩ (.slice q6 N.length c6) = W7 at *
        have k_x := xx
        have k_d := xd
        have k_p := xp
        have BB := xb
        have e_x := xe
        have e_d := xde
        clear xx xd xp xb xe xde
        by_cases hx : y = 0
        · have hM0 := Lib.hid (hbN.out hx)
          skip
          have c_x := fun i => k_x.cell i
          have c_d := fun i => k_d.cell i
          have f_d := fun i => k_d.free i
          have xe := Lib.hid (e_x.out.box k_d (.slice q6 N.length c6))
          have xb := BW_off (p := ⟨w3.heap.size, 0, none⟩) hwd (.slice q6 N.length c6) BB
          have xd := k_d.set_ 0 (.slice q6 N.length c6)
          have xp := k_p.far (p := ⟨w3.heap.size, 0, none⟩) (by show w.heap.size ≠ w3.heap.size; omega) (.slice q6 N.length c6)
          clear BB k_d k_p e_d e_x
          go_wp2_with fail
          go_roundw
          case rel => exact ⟨k + 1, q6, c6, N, by omega, by omega, by first | rfl | (rw [Hk3.out]; rfl), hsN, hM0, by omega, xe, xd, xp, xb⟩
          case measure => first | (simp [intOf, Hk3.out]; done) | (simp [intOf, Hk3.out]; omega) | (simp [intOf]; omega)
        · have c_x := fun i => k_x.cell i
          go_wp2_with fail
          go_roundw
          case rel => exact ⟨k + 1, q, c, E, by omega, by omega, by first | rfl | (rw [Hk3.out]; rfl), hs, hbk, by omega, e_d, k_d, k_p, BB⟩
          case measure => first | (simp [intOf, Hk3.out]; done) | (simp [intOf, Hk3.out]; omega) | (simp [intOf]; omega)
      · clear k_q
        by_cases hx : x = 0
        · have hM0 := Lib.hid (hbM.out hx)
          skip
          have c_x := fun i => k_x.cell i
          have c_d := fun i => k_d.cell i
          have f_d := fun i => k_d.free i
          have xe := Lib.hid (e_x.out.box k_d (.slice q5 M.length c5))
          have xb := BW_off (p := ⟨w3.heap.size, 0, none⟩) hwd (.slice q5 M.length c5) BB
          have xd := k_d.set_ 0 (.slice q5 M.length c5)
          have xp := k_p.far (p := ⟨w3.heap.size, 0, none⟩) (by show w.heap.size ≠ w3.heap.size; omega) (.slice q5 M.length c5)
          clear BB k_d k_p e_d e_x
          go_wp2_with fail
          go_roundw
          case rel => exact ⟨k + 1, q5, c5, M, by omega, by omega, by first | rfl | (rw [Hk3.out]; rfl), hsM, hM0, by omega, xe, xd, xp, xb⟩
          case measure => first | (simp [intOf, Hk3.out]; done) | (simp [intOf, Hk3.out]; omega) | (simp [intOf]; omega)
        · have c_x := fun i => k_x.cell i
          go_wp2_with fail
          go_roundw
          case rel => exact ⟨k + 1, q, c, E, by omega, by omega, by first | rfl | (rw [Hk3.out]; rfl), hs, hbk, by omega, e_d, k_d, k_p, BB⟩
          case measure => first | (simp [intOf, Hk3.out]; done) | (simp [intOf, Hk3.out]; omega) | (simp [intOf]; omega)
    · have hout : ¬ ((k : Int) < (L.length : Int)) ∨ (k = 8 ∧ (k : Int) < (L.length : Int)) := by omega
      have hkE : E.length ≤ 20 := by omega
      clear hlt hk hl
      rcases hout with hk1 | ⟨rfl, hk1⟩
      · have zS := shN_size ps 70
        have zK := shN_size pk 70
        have zD := shN_size pd 210
        have zF := shN_size pf 70
        have zG := shN_size pg 70
        have c_p := fun i => k_p.cell i
        go_wp2_with fail
        refine (small17_any pq ph pt _ _ _ _ ps pk pd pf pg _).mono ?_
        rintro e w4 ⟨rfl, hb⟩
        clear c_p
        replace k_d := k_d.on hb
        replace k_p := k_p.on hb
        replace e_d := Lib.hid (e_d.out.on hb)
        replace BB := BW_on BB hb
        generalize shN ps 70 = S at *
        generalize shN pk 70 = K at *
        generalize shN pd 210 = D at *
        generalize shN pf 70 = F at *
        generalize shN pg 70 = G at *
        clear hb
        have c_p := fun i => k_p.cell i
        have f_p := fun i => k_p.free i
        have hgdp : w3.heap.size ≠ w.heap.size := by omega
        have kp2 := k_p.store12 (.int .i64 pq) (.string S) (.string K) (.string D) (.int .u64 (limb pn 0)) (.int .u64 (limb pn 1)) (.int .u64 (limb pn 2)) (.int .u64 (limb pn 3)) (.string F) (.string G) (.int .i64 ph) (.int .i64 pt)
        have kd2 := k_d.far12 hgdp (.int .i64 pq) (.string S) (.string K) (.string D) (.int .u64 (limb pn 0)) (.int .u64 (limb pn 1)) (.int .u64 (limb pn 2)) (.int .u64 (limb pn 3)) (.string F) (.string G) (.int .i64 ph) (.int .i64 pt)
        have ed2 := Lib.hid (e_d.out.box12 k_p hbk.out.one (.int .i64 pq) (.string S) (.string K) (.string D) (.int .u64 (limb pn 0)) (.int .u64 (limb pn 1)) (.int .u64 (limb pn 2)) (.int .u64 (limb pn 3)) (.string F) (.string G) (.int .i64 ph) (.int .i64 pt))
        have bb2 := below_store12 BB (Nat.le_refl w.heap.size) (.int .i64 pq) (.string S) (.string K) (.string D) (.int .u64 (limb pn 0)) (.int .u64 (limb pn 1)) (.int .u64 (limb pn 2)) (.int .u64 (limb pn 3)) (.string F) (.string G) (.int .i64 ph) (.int .i64 pt)
        clear k_p k_d e_d BB
        go_upto_region 13 with (fail)
        change Code.wp _ _ _ _ ((((((((((((w4.setCell ⟨w.heap.size, 0, none⟩ (.int .i64 pq)).setCell ⟨w.heap.size, 1, none⟩ (.string S)).setCell ⟨w.heap.size, 2, none⟩ (.string K)).setCell ⟨w.heap.size, 3, none⟩ (.string D)).setCell ⟨w.heap.size, 4, none⟩ (.int .u64 (limb pn 0))).setCell ⟨w.heap.size, 5, none⟩ (.int .u64 (limb pn 1))).setCell ⟨w.heap.size, 6, none⟩ (.int .u64 (limb pn 2))).setCell ⟨w.heap.size, 7, none⟩ (.int .u64 (limb pn 3))).setCell ⟨w.heap.size, 8, none⟩ (.string F)).setCell ⟨w.heap.size, 9, none⟩ (.string G)).setCell ⟨w.heap.size, 10, none⟩ (.int .i64 ph)).setCell ⟨w.heap.size, 11, none⟩ (.int .i64 pt))
        clear c_p f_p
        generalize (((((((((((w4.setCell ⟨w.heap.size, 0, none⟩ (.int .i64 pq)).setCell ⟨w.heap.size, 1, none⟩ (.string S)).setCell ⟨w.heap.size, 2, none⟩ (.string K)).setCell ⟨w.heap.size, 3, none⟩ (.string D)).setCell ⟨w.heap.size, 4, none⟩ (.int .u64 (limb pn 0))).setCell ⟨w.heap.size, 5, none⟩ (.int .u64 (limb pn 1))).setCell ⟨w.heap.size, 6, none⟩ (.int .u64 (limb pn 2))).setCell ⟨w.heap.size, 7, none⟩ (.int .u64 (limb pn 3))).setCell ⟨w.heap.size, 8, none⟩ (.string F)).setCell ⟨w.heap.size, 9, none⟩ (.string G)).setCell ⟨w.heap.size, 10, none⟩ (.int .i64 ph)).setCell ⟨w.heap.size, 11, none⟩ (.int .i64 pt) = W5 at *
        have k_p := kp2
        have k_d := kd2
        have e_d := ed2
        have BB := bb2
        clear kp2 kd2 ed2 bb2
        rcases hR : sendL E pq ph pt S K D F G pn with ⟨x, A⟩
        have HS := fun v w hv => send_any v E pq ph pt S K D F G pn w hv hs.out (by omega) (by omega) (by omega) (by omega) (by omega) (by omega) hpn
        rw [hR] at HS
        replace HS := Lib.hid HS
        have c_d := fun i => k_d.cell i
        have c_p := fun i => k_p.cell i
        go_wp2_with fail
        refine (HS.out _ _ e_d.out).mono ?_
        rintro e w6 ⟨q6, c6, rfl, hen, hb⟩
        clear c_d c_p
        replace k_d := k_d.on hb
        replace k_p := k_p.on hb
        replace e_d := Lib.hid (e_d.out.on hb)
        replace BB := BW_on BB hb
        replace k_d := k_d.on (BW_alloc (BW_refl _) (.cells #[.slice q6 A.length c6] 26))
        replace k_p := k_p.on (BW_alloc (BW_refl _) (.cells #[.slice q6 A.length c6] 26))
        replace e_d := Lib.hid (e_d.out.on (BW_alloc (BW_refl _) (.cells #[.slice q6 A.length c6] 26)))
        replace BB := BW_on BB (BW_alloc (BW_refl _) (.cells #[.slice q6 A.length c6] 26))
        have k_a := blk1 w6 26 #[.slice q6 A.length c6]
        have e_a := Lib.hid (hen.on (BW_alloc (BW_refl _) (.cells #[.slice q6 A.length c6] 26)))
        clear hen hb HS
        by_cases hx : x = 0
        · subst hx
          have hback := send_refund hs.out hbk.out hR
          have hinv := send_inv hs.out pq ph pt S K D F G pn
          rw [hR] at hinv
          have hsA : Hid (Srt A) := hinv.1
          have hlA : A.length ≤ E.length + 2 := hinv.2
          have HK := fun v w hv => refund_any v A pq ph pt S K D F G pn w hv hsA.out (by omega) (by omega) (by omega) (by omega) (by omega) (by omega) hpn
          rw [hback] at HK
          replace HK := Lib.hid HK
          clear hback hinv hR
          have c_a := fun i => k_a.cell i
          have c_p := fun i => k_p.cell i
          have c_d := fun i => k_d.cell i
          go_wp2_with fail
          refine (HK.out _ _ e_a.out).mono ?_
          rintro e w7 ⟨q7, c7, rfl, hen, hb⟩
          clear c_a c_p c_d
          replace k_d := k_d.on hb
          replace k_p := k_p.on hb
          replace k_a := k_a.on hb
          replace e_d := Lib.hid (e_d.out.on hb)
          replace e_a := Lib.hid (e_a.out.on hb)
          replace BB := BW_on BB hb
          replace k_d := k_d.on (BW_alloc (BW_refl _) (.cells #[.slice q7 E.length c7] 26))
          replace k_p := k_p.on (BW_alloc (BW_refl _) (.cells #[.slice q7 E.length c7] 26))
          replace k_a := k_a.on (BW_alloc (BW_refl _) (.cells #[.slice q7 E.length c7] 26))
          replace e_d := Lib.hid (e_d.out.on (BW_alloc (BW_refl _) (.cells #[.slice q7 E.length c7] 26)))
          replace e_a := Lib.hid (e_a.out.on (BW_alloc (BW_refl _) (.cells #[.slice q7 E.length c7] 26)))
          replace BB := BW_on BB (BW_alloc (BW_refl _) (.cells #[.slice q7 E.length c7] 26))
          have k_b := blk1 w7 26 #[.slice q7 E.length c7]
          have e_b := Lib.hid (hen.on (BW_alloc (BW_refl _) (.cells #[.slice q7 E.length c7] 26)))
          clear hen hb HK
          have c_b := fun i => k_b.cell i
          have c_d := fun i => k_d.cell i
          go_wp2_with fail
          refine (same_any _ _ E E _ e_b.out e_d.out (by omega) (by omega)).mono ?_
          rintro e w8 ⟨rfl, hb⟩
          clear c_b c_d
          replace k_d := k_d.on hb
          replace k_p := k_p.on hb
          replace k_a := k_a.on hb
          replace k_b := k_b.on hb
          replace e_d := Lib.hid (e_d.out.on hb)
          replace e_a := Lib.hid (e_a.out.on hb)
          replace e_b := Lib.hid (e_b.out.on hb)
          replace BB := BW_on BB hb
          rw [decide_eq_true rfl]
          clear hb
          go_wp2_with fail
          go_ret
          exact ⟨rfl, BB⟩
        · have hA : A = [] := by have h0 := send_err (E := E) (sq := pq) (ht := ph) (tm := pt) (s := S) (k := K) (d := D) (f := F) (g := G) (n := pn) (by rw [hR]; exact hx); rw [hR] at h0; exact h0
          subst hA
          clear hR
          have c_a := fun i => k_a.cell i
          go_wp2_with fail
          refine (dlen_any _ [] _ e_a.out).mono ?_
          rintro e w7 ⟨rfl, hb⟩
          clear c_a
          replace k_d := k_d.on hb
          replace k_p := k_p.on hb
          replace k_a := k_a.on hb
          replace e_d := Lib.hid (e_d.out.on hb)
          replace e_a := Lib.hid (e_a.out.on hb)
          replace BB := BW_on BB hb
          clear hb
          go_wp2_with fail
          go_ret
          exact ⟨rfl, BB⟩
      · have zS := shN_size ps 70
        have zK := shN_size pk 70
        have zD := shN_size pd 210
        have zF := shN_size pf 70
        have zG := shN_size pg 70
        have c_p := fun i => k_p.cell i
        go_wp2_with fail
        refine (small17_any pq ph pt _ _ _ _ ps pk pd pf pg _).mono ?_
        rintro e w4 ⟨rfl, hb⟩
        clear c_p
        replace k_d := k_d.on hb
        replace k_p := k_p.on hb
        replace e_d := Lib.hid (e_d.out.on hb)
        replace BB := BW_on BB hb
        generalize shN ps 70 = S at *
        generalize shN pk 70 = K at *
        generalize shN pd 210 = D at *
        generalize shN pf 70 = F at *
        generalize shN pg 70 = G at *
        clear hb
        have c_p := fun i => k_p.cell i
        have f_p := fun i => k_p.free i
        have hgdp : w3.heap.size ≠ w.heap.size := by omega
        have kp2 := k_p.store12 (.int .i64 pq) (.string S) (.string K) (.string D) (.int .u64 (limb pn 0)) (.int .u64 (limb pn 1)) (.int .u64 (limb pn 2)) (.int .u64 (limb pn 3)) (.string F) (.string G) (.int .i64 ph) (.int .i64 pt)
        have kd2 := k_d.far12 hgdp (.int .i64 pq) (.string S) (.string K) (.string D) (.int .u64 (limb pn 0)) (.int .u64 (limb pn 1)) (.int .u64 (limb pn 2)) (.int .u64 (limb pn 3)) (.string F) (.string G) (.int .i64 ph) (.int .i64 pt)
        have ed2 := Lib.hid (e_d.out.box12 k_p hbk.out.one (.int .i64 pq) (.string S) (.string K) (.string D) (.int .u64 (limb pn 0)) (.int .u64 (limb pn 1)) (.int .u64 (limb pn 2)) (.int .u64 (limb pn 3)) (.string F) (.string G) (.int .i64 ph) (.int .i64 pt))
        have bb2 := below_store12 BB (Nat.le_refl w.heap.size) (.int .i64 pq) (.string S) (.string K) (.string D) (.int .u64 (limb pn 0)) (.int .u64 (limb pn 1)) (.int .u64 (limb pn 2)) (.int .u64 (limb pn 3)) (.string F) (.string G) (.int .i64 ph) (.int .i64 pt)
        clear k_p k_d e_d BB
        go_upto_region 13 with (fail)
        change Code.wp _ _ _ _ ((((((((((((w4.setCell ⟨w.heap.size, 0, none⟩ (.int .i64 pq)).setCell ⟨w.heap.size, 1, none⟩ (.string S)).setCell ⟨w.heap.size, 2, none⟩ (.string K)).setCell ⟨w.heap.size, 3, none⟩ (.string D)).setCell ⟨w.heap.size, 4, none⟩ (.int .u64 (limb pn 0))).setCell ⟨w.heap.size, 5, none⟩ (.int .u64 (limb pn 1))).setCell ⟨w.heap.size, 6, none⟩ (.int .u64 (limb pn 2))).setCell ⟨w.heap.size, 7, none⟩ (.int .u64 (limb pn 3))).setCell ⟨w.heap.size, 8, none⟩ (.string F)).setCell ⟨w.heap.size, 9, none⟩ (.string G)).setCell ⟨w.heap.size, 10, none⟩ (.int .i64 ph)).setCell ⟨w.heap.size, 11, none⟩ (.int .i64 pt))
        clear c_p f_p
        generalize (((((((((((w4.setCell ⟨w.heap.size, 0, none⟩ (.int .i64 pq)).setCell ⟨w.heap.size, 1, none⟩ (.string S)).setCell ⟨w.heap.size, 2, none⟩ (.string K)).setCell ⟨w.heap.size, 3, none⟩ (.string D)).setCell ⟨w.heap.size, 4, none⟩ (.int .u64 (limb pn 0))).setCell ⟨w.heap.size, 5, none⟩ (.int .u64 (limb pn 1))).setCell ⟨w.heap.size, 6, none⟩ (.int .u64 (limb pn 2))).setCell ⟨w.heap.size, 7, none⟩ (.int .u64 (limb pn 3))).setCell ⟨w.heap.size, 8, none⟩ (.string F)).setCell ⟨w.heap.size, 9, none⟩ (.string G)).setCell ⟨w.heap.size, 10, none⟩ (.int .i64 ph)).setCell ⟨w.heap.size, 11, none⟩ (.int .i64 pt) = W5 at *
        have k_p := kp2
        have k_d := kd2
        have e_d := ed2
        have BB := bb2
        clear kp2 kd2 ed2 bb2
        rcases hR : sendL E pq ph pt S K D F G pn with ⟨x, A⟩
        have HS := fun v w hv => send_any v E pq ph pt S K D F G pn w hv hs.out (by omega) (by omega) (by omega) (by omega) (by omega) (by omega) hpn
        rw [hR] at HS
        replace HS := Lib.hid HS
        have c_d := fun i => k_d.cell i
        have c_p := fun i => k_p.cell i
        go_wp2_with fail
        refine (HS.out _ _ e_d.out).mono ?_
        rintro e w6 ⟨q6, c6, rfl, hen, hb⟩
        clear c_d c_p
        replace k_d := k_d.on hb
        replace k_p := k_p.on hb
        replace e_d := Lib.hid (e_d.out.on hb)
        replace BB := BW_on BB hb
        replace k_d := k_d.on (BW_alloc (BW_refl _) (.cells #[.slice q6 A.length c6] 26))
        replace k_p := k_p.on (BW_alloc (BW_refl _) (.cells #[.slice q6 A.length c6] 26))
        replace e_d := Lib.hid (e_d.out.on (BW_alloc (BW_refl _) (.cells #[.slice q6 A.length c6] 26)))
        replace BB := BW_on BB (BW_alloc (BW_refl _) (.cells #[.slice q6 A.length c6] 26))
        have k_a := blk1 w6 26 #[.slice q6 A.length c6]
        have e_a := Lib.hid (hen.on (BW_alloc (BW_refl _) (.cells #[.slice q6 A.length c6] 26)))
        clear hen hb HS
        by_cases hx : x = 0
        · subst hx
          have hback := send_refund hs.out hbk.out hR
          have hinv := send_inv hs.out pq ph pt S K D F G pn
          rw [hR] at hinv
          have hsA : Hid (Srt A) := hinv.1
          have hlA : A.length ≤ E.length + 2 := hinv.2
          have HK := fun v w hv => refund_any v A pq ph pt S K D F G pn w hv hsA.out (by omega) (by omega) (by omega) (by omega) (by omega) (by omega) hpn
          rw [hback] at HK
          replace HK := Lib.hid HK
          clear hback hinv hR
          have c_a := fun i => k_a.cell i
          have c_p := fun i => k_p.cell i
          have c_d := fun i => k_d.cell i
          go_wp2_with fail
          refine (HK.out _ _ e_a.out).mono ?_
          rintro e w7 ⟨q7, c7, rfl, hen, hb⟩
          clear c_a c_p c_d
          replace k_d := k_d.on hb
          replace k_p := k_p.on hb
          replace k_a := k_a.on hb
          replace e_d := Lib.hid (e_d.out.on hb)
          replace e_a := Lib.hid (e_a.out.on hb)
          replace BB := BW_on BB hb
          replace k_d := k_d.on (BW_alloc (BW_refl _) (.cells #[.slice q7 E.length c7] 26))
          replace k_p := k_p.on (BW_alloc (BW_refl _) (.cells #[.slice q7 E.length c7] 26))
          replace k_a := k_a.on (BW_alloc (BW_refl _) (.cells #[.slice q7 E.length c7] 26))
          replace e_d := Lib.hid (e_d.out.on (BW_alloc (BW_refl _) (.cells #[.slice q7 E.length c7] 26)))
          replace e_a := Lib.hid (e_a.out.on (BW_alloc (BW_refl _) (.cells #[.slice q7 E.length c7] 26)))
          replace BB := BW_on BB (BW_alloc (BW_refl _) (.cells #[.slice q7 E.length c7] 26))
          have k_b := blk1 w7 26 #[.slice q7 E.length c7]
          have e_b := Lib.hid (hen.on (BW_alloc (BW_refl _) (.cells #[.slice q7 E.length c7] 26)))
          clear hen hb HK
          have c_b := fun i => k_b.cell i
          have c_d := fun i => k_d.cell i
          go_wp2_with fail
          refine (same_any _ _ E E _ e_b.out e_d.out (by omega) (by omega)).mono ?_
          rintro e w8 ⟨rfl, hb⟩
          clear c_b c_d
          replace k_d := k_d.on hb
          replace k_p := k_p.on hb
          replace k_a := k_a.on hb
          replace k_b := k_b.on hb
          replace e_d := Lib.hid (e_d.out.on hb)
          replace e_a := Lib.hid (e_a.out.on hb)
          replace e_b := Lib.hid (e_b.out.on hb)
          replace BB := BW_on BB hb
          rw [decide_eq_true rfl]
          clear hb
          go_wp2_with fail
          go_ret
          exact ⟨rfl, BB⟩
        · have hA : A = [] := by have h0 := send_err (E := E) (sq := pq) (ht := ph) (tm := pt) (s := S) (k := K) (d := D) (f := F) (g := G) (n := pn) (by rw [hR]; exact hx); rw [hR] at h0; exact h0
          subst hA
          clear hR
          have c_a := fun i => k_a.cell i
          go_wp2_with fail
          refine (dlen_any _ [] _ e_a.out).mono ?_
          rintro e w7 ⟨rfl, hb⟩
          clear c_a
          replace k_d := k_d.on hb
          replace k_p := k_p.on hb
          replace k_a := k_a.on hb
          replace e_d := Lib.hid (e_d.out.on hb)
          replace e_a := Lib.hid (e_a.out.on hb)
          replace BB := BW_on BB hb
          clear hb
          go_wp2_with fail
          go_ret
          exact ⟨rfl, BB⟩
end Go.Proofs.YtiaflghhfcnjlaaGreatDoor

/- The law TransferRound's walk: what goes over a channel, and comes home, leaves both sides as they were; and what is away is in escrow. -/
import Derived.Test.YtpcdgljcpacpiaaGreatDoorUh
import Derived.Test.YtpcdgljcpacpiaaGreatDoorUi
set_option maxRecDepth 20000
namespace Go.Proofs.YtpcdgljcpacpiaaGreatDoor
open Go.RowKit
attribute [local go_sem ↓] Go.wp_at_zero Go.wp_at_succ
def t_c6x : ByteArray := ⟨#[99, 54, 47, 120]⟩
def t_c6c : ByteArray := ⟨#[99, 54, 47, 99, 49, 47, 120]⟩
theorem and15u (x : Int) : ∃ m : Nat, m < 16 ∧ bits .and .u64 x 15 = (m : Int) := by
  have e2 : (BitVec.ofInt 64 15).toNat = 15 := by decide
  have h : (BitVec.ofInt 64 x &&& BitVec.ofInt 64 15).toNat ≤ 15 := by
    rw [BitVec.toNat_and, e2]
    exact Nat.and_le_right
  have e : bits .and .u64 x 15 = IntKind.u64.wrap (((BitVec.ofInt 64 x &&& BitVec.ofInt 64 15).toNat : Nat) : Int) := rfl
  refine ⟨(BitVec.ofInt 64 x &&& BitVec.ofInt 64 15).toNat, by omega, ?_⟩
  rw [e, IntKind.wrap_u64]
  omega
theorem no47_set {L : List Nat} {k : Nat} (h : ∀ j, j < k → L.getD j 0 ≠ 47) : ∀ j, j < k + 1 → (L.set k 120).getD j 0 ≠ 47 := by
  intro j hj
  rw [List.getD_eq_getElem?_getD, List.getElem?_set]
  by_cases e : k = j
  · rw [if_pos e]
    split <;> decide
  · rw [if_neg e, ← List.getD_eq_getElem?_getD]
    exact h j (by omega)
theorem no47_next {L : List Nat} {k x : Nat} (h : ∀ j, j < k → L.getD j 0 ≠ 47) (hx : L[k]? = some x) (hne : x ≠ 47) : ∀ j, j < k + 1 → L.getD j 0 ≠ 47 := by
  intro j hj
  by_cases e : j = k
  · rw [e, List.getD_eq_getElem?_getD, hx]; exact hne
  · exact h j (by omega)
theorem set_256 {L : List Nat} {k : Nat} (h : ∀ b ∈ L, b < 256) : ∀ b ∈ L.set k 120, b < 256 := fun b hb => by
  rcases List.mem_or_eq_of_mem_set hb with hb | rfl
  · exact h b hb
  · decide
theorem U8s_set' (L : List Nat) (k : Nat) : (U8s L).set k (.int .u8 120) = U8s (L.set k 120) := by
  unfold U8s
  rw [List.map_set]
  rfl
theorem U8s_get {L : List Nat} {k x : Nat} (h : L[k]? = some x) : (U8s L)[k]? = some (.int .u8 (x : Int)) := by
  unfold U8s
  rw [List.getElem?_map, h]
  rfl
theorem cat_litfalse : ∀ w, (Op.stringOp .add ⟨#[99, 54, 47]⟩ ⟨#[120]⟩).run Tryz.prog w = .ok (.string t_c6x) w := by
  obtain ⟨t, h, a⟩ := cat_big ⟨#[99, 54, 47]⟩ ⟨#[120]⟩ (by decide)
  obtain rfl : t = t_c6x := bysN_inj (h.trans (by decide +kernel))
  exact a
theorem cat_littrue : ∀ w, (Op.stringOp .add ⟨#[99, 54, 47]⟩ ⟨#[99, 49, 47, 120]⟩).run Tryz.prog w = .ok (.string t_c6c) w := by
  obtain ⟨t, h, a⟩ := cat_big ⟨#[99, 54, 47]⟩ ⟨#[99, 49, 47, 120]⟩ (by decide)
  obtain rfl : t = t_c6c := bysN_inj (h.trans (by decide +kernel))
  exact a
theorem plain_of {s : ByteArray} (h0 : 1 ≤ s.size) (h1 : s.size ≤ 21) (h : ∀ j, j < s.size → (bysN s).getD j 0 ≠ 47) : okPlain (bysN s) = true := by
  unfold okPlain okName
  rw [bysN_len, decide_eq_true h0, decide_eq_true (show s.size ≤ 64 by omega), Bool.true_and, Bool.true_and]
  rw [List.all_eq_true]
  intro c hc
  obtain ⟨j, hj, rfl⟩ := List.getElem_of_mem hc
  have h2 := h j (by rw [← bysN_len]; exact hj)
  rw [List.getD_eq_getElem?_getD, List.getElem?_eq_getElem hj] at h2
  exact decide_eq_true h2
set_option maxHeartbeats 16000000 in
set_option maxRecDepth 100000 in
theorem l17round_any (n : Int) (v : Bool) (tw : ByteArray) (w : World) : Calls Tryz.prog 5 #[.int .u64 n, .bool v, .string tw] w fun e w' => e = .returned (.bool true) ∧ Below w.heap.size w w' := by
  obtain ⟨m, hm, em⟩ := and15u n
  have HO := fun v w hv => of_any v S17 w hv (by have := S17_len; omega)
  rw [st_of] at HO
  replace HO := Lib.hid HO
  go_enter Tryz.func5, Tryz.ntmps5
  go_wp2_with fail
  refine (awake17_any _).mono ?_
  rintro e w1 ⟨rfl, BB⟩
  have hw1 := BB.size
  have zT := shN_size tw 20
  obtain ⟨t1, h1, a1⟩ := cat_big ⟨#[116]⟩ (shN tw 20) (by show 1 + (shN tw 20).size ≤ _; omega)
  have z1 : t1.size = (shN tw 20).size + 1 := by rw [← bysN_len, h1, List.length_append, bysN_len, bysN_len, Nat.add_comm]; rfl
  have hcv := Lib.run_convert_string_bytes (P := Tryz.prog) w1 9 56 5 t1 Tryz.underlying9 Tryz.underlying56 Tryz.underlying5
  have hown := bytes_own w1 5 t1 (grownCap_le_maxLen w1 t1.size 0 5 (by unfold maxLen; omega))
  rw [← U8s_bysN] at hown
  have hb1 := bytes_below w1 5 t1
  generalize Lib.bytesWorld w1 5 t1 = W1 at *
  generalize grownCap w1 t1.size 0 5 = cap0 at *
  have hB := ByR.of hown
  have hz1 : 1 ≤ t1.size ∧ t1.size ≤ 21 := by omega
  obtain ⟨hz0, hz1⟩ := hz1
  clear hown h1 z1
  go_wp2_with fail
  refine (short17_any tw 20 _).mono ?_
  rintro e w2 ⟨rfl, rfl⟩
  replace BB := BW_on BB hb1
  clear hb1
  go_wp2_with fail
  have hL0 := bysN_len t1
  have h256 := bysN_lt t1
  clear zT
  generalize bysN t1 = L0 at *
  go_loopw [9] (fun i wr => ∃ (k : Nat) (L : List Nat), k ≤ t1.size ∧ i = .int .i64 (k : Int) ∧ Hid (L.length = t1.size) ∧ Hid (∀ b ∈ L, b < 256) ∧ Hid (∀ j, j < k → L.getD j 0 ≠ 47) ∧ ByR wr w1.heap.size t1.size (U8s L) ∧ Below w.heap.size w wr) (fun i _ => (t1.size + 1 - intOf i).toNat)
  case atStart => exact ⟨0, L0, by omega, rfl, hL0, h256, (fun j hj => absurd hj (Nat.not_lt_zero _)), hB, BB⟩
  case round =>
    clear hB BB hL0 h256 hcv a1
    obtain ⟨k, L, hk, rfl, hL, h256, hno, hB, BB⟩ := hrel
    by_cases h0 : k < t1.size
    · have hk1 : (k : Int) < (t1.size : Int) := by omega
      have c0 := hB.cell h0
      have f0 := hB.free h0
      obtain ⟨x, hx⟩ : ∃ x, L[k]? = some x := ⟨_, List.getElem?_eq_getElem (by rw [hL.out]; exact h0)⟩
      rw [U8s_get hx] at c0
      by_cases h47 : x = 47
      · subst h47
        have hB2 := hB.set_ k (.int .u8 120)
        rw [U8s_set'] at hB2
        have BB2 := BB.setCell (p := ⟨w1.heap.size, k, none⟩) hw1 (.int .u8 120)
        have HL2 : Hid ((L.set k 120).length = t1.size) := Lib.hid (by rw [List.length_set]; exact hL.out)
        have H56 := Lib.hid (set_256 (k := k) h256.out)
        have HNO := Lib.hid (no47_set hno.out)
        clear hB BB hx
        go_wp2_with fail
        go_roundw
        case rel => exact ⟨k + 1, L.set k 120, by omega, rfl, HL2, H56, HNO, hB2, BB2⟩
        case measure => simp [intOf]; omega
      · have h47i : ¬ ((x : Int) = 47) := by omega
        have HNO := Lib.hid (no47_next hno.out hx h47)
        clear hx
        go_wp2_with fail
        go_roundw
        case rel => exact ⟨k + 1, L, by omega, rfl, hL, h256, HNO, hB, BB⟩
        case measure => simp [intOf]; omega
    · obtain rfl : k = t1.size := by omega
      clear h0 hk
      have hB' := hB
      rw [← hL.out] at hB'
      obtain ⟨s, hs, cs⟩ := hB'.text h256.out cap0
      rw [hL.out] at cs
      have hsz : s.size = t1.size := by rw [← bysN_len, hs]; exact hL.out
      have okS : okPlain (bysN s) = true := plain_of (by omega) (by omega) (by rw [hs, hsz]; exact hno.out)
      have zS : s.size ≤ 21 := by omega
      clear hB' hB hs hsz hno h256 hL hz0 hz1
      cases v
      · have LS := limb_small (n := m) (by omega)
        have HA := fun v w hv => send_any v S17 1 9 0 t_c5 t_c6 t_x t_ann s m w hv S17_srt (by have := S17_len; omega) (by decide) (by decide) (by decide) (by decide) (by omega) (W256.small (by omega))
        rw [LS.1, LS.2.1, LS.2.2.1, LS.2.2.2] at HA
        rcases hR : sendL S17 1 9 0 t_c5 t_c6 t_x t_ann s m with ⟨x, A⟩
        rw [hR] at HA
        replace HA := Lib.hid HA
        have hac : ∀ w, (Op.stringOp .add ⟨#[99, 54, 47]⟩ ⟨#[120]⟩).run Tryz.prog w = .ok (.string t_c6x) w := cat_litfalse
        go_wp2_with fail
        refine (start17_any _).mono ?_
        rintro e w2 ⟨vs, rfl, hst, hb⟩
        replace BB := BW_on BB hb
        have e_s := Lib.hid hst
        clear hst hb cs
        go_wp2_with fail
        refine (HO.out _ _ e_s.out).mono ?_
        rintro e w3 ⟨vd, rfl, hd, hb⟩
        replace BB := BW_on BB hb
        obtain ⟨q0, c0, rfl⟩ := hd.len
        have e_d := Lib.hid hd
        clear hd hb e_s HO
        replace e_d := Lib.hid (e_d.out.on (BW_alloc (BW_refl _) (.cells #[.slice q0 S17.length c0] 27)))
        replace BB := BW_on BB (BW_alloc (BW_refl _) (.cells #[.slice q0 S17.length c0] 27))
        have k_d := blk1 w3 27 #[.slice q0 S17.length c0]
        have k_t := blk2 w3 (.cells #[.slice q0 S17.length c0] 27) 27 #[.slice none 0 0]
        replace k_d := k_d.on (BW_alloc (BW_refl _) (.cells #[.slice none 0 0] 27))
        replace e_d := Lib.hid (e_d.out.on (BW_alloc (BW_refl _) (.cells #[.slice none 0 0] 27)))
        replace BB := BW_on BB (BW_alloc (BW_refl _) (.cells #[.slice none 0 0] 27))
        replace k_d := k_d.on (BW_alloc (BW_refl _) (.cells #[.int .i64 1, .string t_c5, .string t_c6, .string t_x, .int .u64 (m : Int), .int .u64 0, .int .u64 0, .int .u64 0, .string t_ann, .string s, .int .i64 9, .int .i64 0] 35))
        replace k_t := k_t.on (BW_alloc (BW_refl _) (.cells #[.int .i64 1, .string t_c5, .string t_c6, .string t_x, .int .u64 (m : Int), .int .u64 0, .int .u64 0, .int .u64 0, .string t_ann, .string s, .int .i64 9, .int .i64 0] 35))
        replace e_d := Lib.hid (e_d.out.on (BW_alloc (BW_refl _) (.cells #[.int .i64 1, .string t_c5, .string t_c6, .string t_x, .int .u64 (m : Int), .int .u64 0, .int .u64 0, .int .u64 0, .string t_ann, .string s, .int .i64 9, .int .i64 0] 35)))
        replace BB := BW_on BB (BW_alloc (BW_refl _) (.cells #[.int .i64 1, .string t_c5, .string t_c6, .string t_x, .int .u64 (m : Int), .int .u64 0, .int .u64 0, .int .u64 0, .string t_ann, .string s, .int .i64 9, .int .i64 0] 35))
        have k_p := blk3 w3 (.cells #[.slice q0 S17.length c0] 27) (.cells #[.slice none 0 0] 27) 35 #[.int .i64 1, .string t_c5, .string t_c6, .string t_x, .int .u64 (m : Int), .int .u64 0, .int .u64 0, .int .u64 0, .string t_ann, .string s, .int .i64 9, .int .i64 0]
        have c_d := fun i => k_d.cell i
        have c_p := fun i => k_p.cell i
        go_wp2_with fail
        refine (HA.out _ _ e_d.out).mono ?_
        rintro e wq4 ⟨qa, ca, rfl, hen, hb⟩
        clear c_d c_p
        replace k_d := k_d.on hb
        replace k_t := k_t.on hb
        replace k_p := k_p.on hb
        replace e_d := Lib.hid (e_d.out.on hb)
        replace BB := BW_on BB hb
        replace k_d := k_d.on (BW_alloc (BW_refl _) (.cells #[.slice qa A.length ca] 27))
        replace k_t := k_t.on (BW_alloc (BW_refl _) (.cells #[.slice qa A.length ca] 27))
        replace k_p := k_p.on (BW_alloc (BW_refl _) (.cells #[.slice qa A.length ca] 27))
        replace e_d := Lib.hid (e_d.out.on (BW_alloc (BW_refl _) (.cells #[.slice qa A.length ca] 27)))
        replace BB := BW_on BB (BW_alloc (BW_refl _) (.cells #[.slice qa A.length ca] 27))
        have k_a := blk1 wq4 27 #[.slice qa A.length ca]
        have e_a := Lib.hid (hen.on (BW_alloc (BW_refl _) (.cells #[.slice qa A.length ca] 27)))
        clear hen hb HA
        by_cases hx : x = 0
        · obtain ⟨hm0, hm1, hse, hmv⟩ := rd_yes false ⟨m, hm⟩ okS (by show (sendL S17 1 9 0 t_c5 t_c6 t_x t_ann s m).1 = 0; rw [hR]; exact hx)
          obtain rfl : A = rdE false m := by have h := hR.symm.trans hse; exact (Prod.mk.inj h).2
          subst hx
          clear hR hse
          obtain ⟨lA, rA⟩ := rdE_len false m
          obtain ⟨lB, rB⟩ := rdB_len false s m
          have HB := fun v w hv => recv_any v [] 1 9 0 t_c5 t_c6 t_x t_ann s m w hv List.Pairwise.nil (by decide) (by decide) (by decide) (by decide) (by decide) (by omega) (W256.small (by omega))
          rw [LS.1, LS.2.1, LS.2.2.1, LS.2.2.2] at HB
          rw [show recvL [] 1 9 0 t_c5 t_c6 t_x t_ann s m = (0, rdB false s m) from rd_recv false ⟨m, hm⟩ hm0 okS] at HB
          replace HB := Lib.hid HB
          have HC := fun v w hv => send_any v (rdB false s m) 1 9 0 t_c6 t_c5 t_c6x s t_ann m w hv rB (by omega) (by decide) (by decide) (by decide) (by omega) (by decide) (W256.small (by omega))
          rw [LS.1, LS.2.1, LS.2.2.1, LS.2.2.2] at HC
          rw [show sendL (rdB false s m) 1 9 0 t_c6 t_c5 t_c6x s t_ann m = (0, []) from rd_back1 false ⟨m, hm⟩ hm0 okS] at HC
          replace HC := Lib.hid HC
          have HD := fun v w hv => recv_any v (rdE false m) 1 9 0 t_c6 t_c5 t_c6x s t_ann m w hv rA (by omega) (by decide) (by decide) (by decide) (by omega) (by decide) (W256.small (by omega))
          rw [LS.1, LS.2.1, LS.2.2.1, LS.2.2.2] at HD
          rw [show recvL (rdE false m) 1 9 0 t_c6 t_c5 t_c6x s t_ann m = (0, S17) from rd_back2 false ⟨m, hm⟩ hm0 okS hmv] at HD
          replace HD := Lib.hid HD
          have HH1 := fun w => home17_any 1 9 0 t_c5 t_c6 t_x t_ann s m w (by decide) (by decide)
          rw [LS.1, LS.2.1, LS.2.2.1, LS.2.2.2, show homeB t_c5 t_x = false from (rd_home false).1] at HH1
          replace HH1 := Lib.hid HH1
          have HA1 := fun w => arr17_any 1 9 0 t_c5 t_c6 t_x t_ann s m w (by decide) (by decide) (by decide)
          rw [LS.1, LS.2.1, LS.2.2.1, LS.2.2.2, show arrB t_c5 t_c6 t_x = t_c6x from (rd_arr false).1] at HA1
          replace HA1 := Lib.hid HA1
          have HH2 := fun w => home17_any 1 9 0 t_c6 t_c5 t_c6x s t_ann m w (by decide) (by decide)
          rw [LS.1, LS.2.1, LS.2.2.1, LS.2.2.2, show homeB t_c6 t_c6x = true from (rd_home false).2] at HH2
          replace HH2 := Lib.hid HH2
          have HA2 := fun w => arr17_any 1 9 0 t_c6 t_c5 t_c6x s t_ann m w (by decide) (by decide) (by decide)
          rw [LS.1, LS.2.1, LS.2.2.1, LS.2.2.2, show arrB t_c6 t_c5 t_c6x = ⟨#[120]⟩ from (rd_arr false).2] at HA2
          replace HA2 := Lib.hid HA2
          have B1 := fun v w hv => r11bal_any v (rdE false m) t_esc5 t_x w hv (by omega) (by decide) (by decide)
          rw [show ng (rdE false m) (keyB t_esc5 t_x) = m from rd_bal false ⟨m, hm⟩ hm1, wv_small (n := m) (by omega)] at B1
          replace B1 := Lib.hid B1
          have B2 := fun v w hv => r11sup_any v (rdB false s m) t_c6x w hv (by omega) (by decide)
          rw [show ng (rdB false s m) (totB t_c6x) = m from rd_sup false ⟨m, hm⟩ hm0 okS, wv_small (n := m) (by omega)] at B2
          replace B2 := Lib.hid B2
          have HE := Lib.hid (fun w => eqW17 (m : Int) 0 0 0 w)
          clear hmv hm1 rA rB LS okS
          generalize rdE false m = A at *
          generalize rdB false s m = B at *
          have c_t := fun i => k_t.cell i
          have c_p := fun i => k_p.cell i
          go_wp2_with fail
          refine (HB.out _ _ (Ents.nil _)).mono ?_
          rintro e wq5 ⟨qb, cb, rfl, hen, hb⟩
          clear c_t c_p
          replace k_d := k_d.on hb
          replace k_t := k_t.on hb
          replace k_p := k_p.on hb
          replace k_a := k_a.on hb
          replace e_d := Lib.hid (e_d.out.on hb)
          replace e_a := Lib.hid (e_a.out.on hb)
          replace BB := BW_on BB hb
          replace k_d := k_d.on (BW_alloc (BW_refl _) (.cells #[.slice qb B.length cb] 27))
          replace k_t := k_t.on (BW_alloc (BW_refl _) (.cells #[.slice qb B.length cb] 27))
          replace k_p := k_p.on (BW_alloc (BW_refl _) (.cells #[.slice qb B.length cb] 27))
          replace k_a := k_a.on (BW_alloc (BW_refl _) (.cells #[.slice qb B.length cb] 27))
          replace e_d := Lib.hid (e_d.out.on (BW_alloc (BW_refl _) (.cells #[.slice qb B.length cb] 27)))
          replace e_a := Lib.hid (e_a.out.on (BW_alloc (BW_refl _) (.cells #[.slice qb B.length cb] 27)))
          replace BB := BW_on BB (BW_alloc (BW_refl _) (.cells #[.slice qb B.length cb] 27))
          have k_b := blk1 wq5 27 #[.slice qb B.length cb]
          have e_b := Lib.hid (hen.on (BW_alloc (BW_refl _) (.cells #[.slice qb B.length cb] 27)))
          clear hen hb HB
          go_upto_region 21 with (fail)
          change Code.wp _ _ _ _ (wq5.alloc (.cells #[.slice qb B.length cb] 27))
          have hgp : w3.heap.size + 1 + 1 = w3.heap.size + 1 + 1 := rfl
          generalize hV5 : wq5.alloc (.cells #[.slice qb B.length cb] 27) = V5 at *
          clear hV5
          have hS17l := S17_len
          refine wp_region_held_drew (S := BxS V5 [((w3.heap.size + 1 + 1), 35, #[.int .i64 1, .string t_c5, .string t_c6, .string t_x, .int .u64 (m : Int), .int .u64 0, .int .u64 0, .int .u64 0, .string t_ann, .string s, .int .i64 9, .int .i64 0]), (wq4.heap.size, 27, #[.slice qa A.length ca]), (wq5.heap.size, 27, #[.slice qb B.length cb])]) (by kernel_rfl) (((((BxS.nil (BW_refl V5)).cons k_b).cons k_a).cons k_p)).drew (fun hH0 => ?_)
          refine wpAnyH_take (i := 0) (v := .int .i64 0) rfl (by kernel_rfl) (by kernel_rfl) (by kernel_rfl) (fun _ _ _ h => h) (yk_move (by kernel_rfl) _ rfl _ (by kernel_rfl)) hH0 ?_
          refine wpAnyH_take (i := 1) (v := .bool false) rfl (by kernel_rfl) (by kernel_rfl) (by kernel_rfl) (fun _ _ _ h => h) (yk_bin (by kernel_rfl) _ _ _ _ _ rfl (.int .i64 0) (.int .i64 0) (by kernel_rfl) (by kernel_rfl) _ (fun w' hw' => by go_simp)) hH0 ?_
          refine wpAnyH_take (i := 2) (v := .bool false) rfl (by kernel_rfl) (by kernel_rfl) (by kernel_rfl) (fun _ _ _ h => h) (yk_move (by kernel_rfl) _ rfl _ (by kernel_rfl)) hH0 ?_
          refine wpAnyH_take (i := 3) (v := .agg #[.int .i64 1, .string t_c5, .string t_c6, .string t_x, .int .u64 (m : Int), .int .u64 0, .int .u64 0, .int .u64 0, .string t_ann, .string s, .int .i64 9, .int .i64 0]) rfl (by kernel_rfl) (by kernel_rfl) (by kernel_rfl) (fun _ _ _ h => h) (yk_load (by kernel_rfl) _ _ rfl (.pointer (some ⟨(w3.heap.size + 1 + 1), 0, none⟩)) (by kernel_rfl) _ (fun w' hw' => by have c0 := (hw'.bl _ (.head _)).cell 0; have c1 := (hw'.bl _ (.head _)).cell 1; have c2 := (hw'.bl _ (.head _)).cell 2; have c3 := (hw'.bl _ (.head _)).cell 3; have c4 := (hw'.bl _ (.head _)).cell 4; have c5 := (hw'.bl _ (.head _)).cell 5; have c6 := (hw'.bl _ (.head _)).cell 6; have c7 := (hw'.bl _ (.head _)).cell 7; have c8 := (hw'.bl _ (.head _)).cell 8; have c9 := (hw'.bl _ (.head _)).cell 9; have c10 := (hw'.bl _ (.head _)).cell 10; have c11 := (hw'.bl _ (.head _)).cell 11; go_simp)) hH0 ?_
          refine wpAnyH_ready (rs := [4]) (by kernel_rfl) (by simp) ?_
          refine AllReadyH.cons rfl (fun K hK => ?_) AllReadyH.nil
          go_simp
          go_at_call 18
          refine (HH1.out _).mono ?_
          rintro e w4 ⟨rfl, hd4⟩
          go_wp2_with fail
          refine hK.out _ _ (hH0.on hd4) (fun hH1 => ?_)
          clear hK K
          refine wpAnyH_take (i := 5) (v := .bool false) rfl (by kernel_rfl) (by kernel_rfl) (by kernel_rfl) (fun _ _ _ h => h) (yk_pick (by kernel_rfl) _ _ _ rfl false (by kernel_rfl) _ (by kernel_rfl)) hH1 ?_
          refine wpAnyH_take (i := 6) (v := .bool false) rfl (by kernel_rfl) (by kernel_rfl) (by kernel_rfl) (fun _ _ _ h => h) (yk_move (by kernel_rfl) _ rfl _ (by kernel_rfl)) hH1 ?_
          refine wpAnyH_take (i := 7) (v := .agg #[.int .i64 1, .string t_c5, .string t_c6, .string t_x, .int .u64 (m : Int), .int .u64 0, .int .u64 0, .int .u64 0, .string t_ann, .string s, .int .i64 9, .int .i64 0]) rfl (by kernel_rfl) (by kernel_rfl) (by kernel_rfl) (fun _ _ _ h => h) (yk_load (by kernel_rfl) _ _ rfl (.pointer (some ⟨(w3.heap.size + 1 + 1), 0, none⟩)) (by kernel_rfl) _ (fun w' hw' => by have c0 := (hw'.bl _ (.head _)).cell 0; have c1 := (hw'.bl _ (.head _)).cell 1; have c2 := (hw'.bl _ (.head _)).cell 2; have c3 := (hw'.bl _ (.head _)).cell 3; have c4 := (hw'.bl _ (.head _)).cell 4; have c5 := (hw'.bl _ (.head _)).cell 5; have c6 := (hw'.bl _ (.head _)).cell 6; have c7 := (hw'.bl _ (.head _)).cell 7; have c8 := (hw'.bl _ (.head _)).cell 8; have c9 := (hw'.bl _ (.head _)).cell 9; have c10 := (hw'.bl _ (.head _)).cell 10; have c11 := (hw'.bl _ (.head _)).cell 11; go_simp)) hH1 ?_
          refine wpAnyH_take (i := 9) (v := .string ⟨#[120]⟩) rfl (by kernel_rfl) (by kernel_rfl) (by kernel_rfl) (fun _ _ _ h => h) (yk_move (by kernel_rfl) _ rfl _ (by kernel_rfl)) hH1 ?_
          refine wpAnyH_take (i := 10) (v := .string t_c6x) rfl (by kernel_rfl) (by kernel_rfl) (by kernel_rfl) (fun _ _ _ h => h) (yk_bin (by kernel_rfl) _ _ _ _ _ rfl (.string { data := #[99, 54, 47] }) (.string ⟨#[120]⟩) (by kernel_rfl) (by kernel_rfl) _ (fun w' hw' => by have h0 := hac w'; go_simp)) hH1 ?_
          refine wpAnyH_ready (rs := [8]) (by kernel_rfl) (by simp) ?_
          refine AllReadyH.cons rfl (fun K hK => ?_) AllReadyH.nil
          go_simp
          go_at_call 20
          refine (HA1.out _).mono ?_
          rintro e w8 ⟨rfl, hd8⟩
          go_wp2_with fail
          refine hK.out _ _ (hH1.on hd8) (fun hH2 => ?_)
          clear hK K
          refine wpAnyH_take (i := 11) (v := .bool false) rfl (by kernel_rfl) (by kernel_rfl) (by kernel_rfl) (fun _ _ _ h => h) (yk_bin (by kernel_rfl) _ _ _ _ _ rfl (.string t_c6x) (.string t_c6x) (by kernel_rfl) (by kernel_rfl) _ (fun w' hw' => by go_simp)) hH2 ?_
          refine wpAnyH_take (i := 12) (v := .bool false) rfl (by kernel_rfl) (by kernel_rfl) (by kernel_rfl) (fun _ _ _ h => h) (yk_pick (by kernel_rfl) _ _ _ rfl false (by kernel_rfl) _ (by kernel_rfl)) hH2 ?_
          refine wpAnyH_take (i := 13) (v := .bool false) rfl (by kernel_rfl) (by kernel_rfl) (by kernel_rfl) (fun _ _ _ h => h) (yk_move (by kernel_rfl) _ rfl _ (by kernel_rfl)) hH2 ?_
          refine wpAnyH_take (i := 14) (v := .agg #[.slice qa A.length ca]) rfl (by kernel_rfl) (by kernel_rfl) (by kernel_rfl) (fun _ _ _ h => h) (yk_load (by kernel_rfl) _ _ rfl (.pointer (some ⟨wq4.heap.size, 0, none⟩)) (by kernel_rfl) _ (fun w' hw' => by have c0 := (hw'.bl _ (.tail _ (.head _))).cell 0; go_simp)) hH2 ?_
          refine wpAnyH_take (i := 16) (v := .string ⟨#[120]⟩) rfl (by kernel_rfl) (by kernel_rfl) (by kernel_rfl) (fun _ _ _ h => h) (yk_move (by kernel_rfl) _ rfl _ (by kernel_rfl)) hH2 ?_
          refine wpAnyH_take (i := 18) (v := .agg #[.slice qb B.length cb]) rfl (by kernel_rfl) (by kernel_rfl) (by kernel_rfl) (fun _ _ _ h => h) (yk_load (by kernel_rfl) _ _ rfl (.pointer (some ⟨wq5.heap.size, 0, none⟩)) (by kernel_rfl) _ (fun w' hw' => by have c0 := (hw'.bl _ (.tail _ (.tail _ (.head _)))).cell 0; go_simp)) hH2 ?_
          refine wpAnyH_take (i := 20) (v := .string ⟨#[120]⟩) rfl (by kernel_rfl) (by kernel_rfl) (by kernel_rfl) (fun _ _ _ h => h) (yk_move (by kernel_rfl) _ rfl _ (by kernel_rfl)) hH2 ?_
          refine wpAnyH_take (i := 21) (v := .string t_c6x) rfl (by kernel_rfl) (by kernel_rfl) (by kernel_rfl) (fun _ _ _ h => h) (yk_bin (by kernel_rfl) _ _ _ _ _ rfl (.string { data := #[99, 54, 47] }) (.string ⟨#[120]⟩) (by kernel_rfl) (by kernel_rfl) _ (fun w' hw' => by have h0 := hac w'; go_simp)) hH2 ?_
          refine wpAnyH_ready (rs := [15]) (by kernel_rfl) (by simp) ?_
          refine AllReadyH.cons rfl (fun K hK => ?_) AllReadyH.nil
          go_simp
          go_at_call 17
          refine (all_any _ A _ (e_a.out.on hH2.hb) (by omega)).mono ?_
          rintro e w15 ⟨v15, rfl, hown15, hd15⟩
          have e15 := own_ents hown15
          go_wp2_with fail
          refine hK.out _ _ (hH2.on hd15) (fun hH3 => ?_)
          clear hK K
          refine wpAnyH_ready (rs := [17]) (by kernel_rfl) (by simp) ?_
          refine AllReadyH.cons rfl (fun K hK => ?_) AllReadyH.nil
          go_simp
          go_at_call 24
          refine (B1.out _ _ e15).mono ?_
          rintro e w17 ⟨rfl, hd17⟩
          go_wp2_with fail
          refine hK.out _ _ (hH3.on hd17) (fun hH4 => ?_)
          clear hK K
          refine wpAnyH_ready (rs := [19]) (by kernel_rfl) (by simp) ?_
          refine AllReadyH.cons rfl (fun K hK => ?_) AllReadyH.nil
          go_simp
          go_at_call 17
          refine (all_any _ B _ (e_b.out.on hH4.hb) (by omega)).mono ?_
          rintro e w19 ⟨v19, rfl, hown19, hd19⟩
          have e19 := own_ents hown19
          go_wp2_with fail
          refine hK.out _ _ (hH4.on hd19) (fun hH5 => ?_)
          clear hK K
          refine wpAnyH_ready (rs := [22]) (by kernel_rfl) (by simp) ?_
          refine AllReadyH.cons rfl (fun K hK => ?_) AllReadyH.nil
          go_simp
          go_at_call 25
          refine (B2.out _ _ e19).mono ?_
          rintro e w22 ⟨rfl, hd22⟩
          go_wp2_with fail
          refine hK.out _ _ (hH5.on hd22) (fun hH6 => ?_)
          clear hK K
          refine wpAnyH_take (i := 23) (v := .bool false) rfl (by kernel_rfl) (by kernel_rfl) (by kernel_rfl) (fun _ _ _ h => h) (yk_bin (by kernel_rfl) _ _ _ _ _ rfl (.agg #[.int .u64 (m : Int), .int .u64 0, .int .u64 0, .int .u64 0]) (.agg #[.int .u64 (m : Int), .int .u64 0, .int .u64 0, .int .u64 0]) (by kernel_rfl) (by kernel_rfl) _ (fun w' hw' => by have h0 := HE.out w'; go_simp)) hH6 ?_
          refine wpAnyH_take (i := 24) (v := .bool false) rfl (by kernel_rfl) (by kernel_rfl) (by kernel_rfl) (fun _ _ _ h => h) (yk_pick (by kernel_rfl) _ _ _ rfl false (by kernel_rfl) _ (by kernel_rfl)) hH6 ?_
          refine wpAnyH_done (by kernel_rfl) ?_ _
          have hbz := hH6.hb
          replace k_d := k_d.on hbz
          replace k_t := k_t.on hbz
          replace k_p := k_p.on hbz
          replace k_a := k_a.on hbz
          replace k_b := k_b.on hbz
          replace e_d := Lib.hid (e_d.out.on hbz)
          replace e_a := Lib.hid (e_a.out.on hbz)
          replace e_b := Lib.hid (e_b.out.on hbz)
          replace BB := BW_on BB hbz
          clear hH0 hH1 hH2 hH3 hH4 hH5 hH6 hbz hd4 hd8 hd15 hd17 hd19 hd22 hown15 hown19 e15 e19 HH1 HA1 B1 B2 HE
          have c_p := fun i => k_p.cell i
          go_upto_region 24 with (fail)
          change Code.wp _ _ _ _ (w22.alloc (.cells #[.int .i64 1, .string t_c6, .string t_c5, .string t_c6x, .int .u64 (m : Int), .int .u64 0, .int .u64 0, .int .u64 0, .string s, .string t_ann, .int .i64 9, .int .i64 0] 35))
          clear c_p
          replace k_d := k_d.on (BW_alloc (BW_refl _) (.cells #[.int .i64 1, .string t_c6, .string t_c5, .string t_c6x, .int .u64 (m : Int), .int .u64 0, .int .u64 0, .int .u64 0, .string s, .string t_ann, .int .i64 9, .int .i64 0] 35))
          replace k_t := k_t.on (BW_alloc (BW_refl _) (.cells #[.int .i64 1, .string t_c6, .string t_c5, .string t_c6x, .int .u64 (m : Int), .int .u64 0, .int .u64 0, .int .u64 0, .string s, .string t_ann, .int .i64 9, .int .i64 0] 35))
          replace k_p := k_p.on (BW_alloc (BW_refl _) (.cells #[.int .i64 1, .string t_c6, .string t_c5, .string t_c6x, .int .u64 (m : Int), .int .u64 0, .int .u64 0, .int .u64 0, .string s, .string t_ann, .int .i64 9, .int .i64 0] 35))
          replace k_a := k_a.on (BW_alloc (BW_refl _) (.cells #[.int .i64 1, .string t_c6, .string t_c5, .string t_c6x, .int .u64 (m : Int), .int .u64 0, .int .u64 0, .int .u64 0, .string s, .string t_ann, .int .i64 9, .int .i64 0] 35))
          replace k_b := k_b.on (BW_alloc (BW_refl _) (.cells #[.int .i64 1, .string t_c6, .string t_c5, .string t_c6x, .int .u64 (m : Int), .int .u64 0, .int .u64 0, .int .u64 0, .string s, .string t_ann, .int .i64 9, .int .i64 0] 35))
          replace e_d := Lib.hid (e_d.out.on (BW_alloc (BW_refl _) (.cells #[.int .i64 1, .string t_c6, .string t_c5, .string t_c6x, .int .u64 (m : Int), .int .u64 0, .int .u64 0, .int .u64 0, .string s, .string t_ann, .int .i64 9, .int .i64 0] 35)))
          replace e_a := Lib.hid (e_a.out.on (BW_alloc (BW_refl _) (.cells #[.int .i64 1, .string t_c6, .string t_c5, .string t_c6x, .int .u64 (m : Int), .int .u64 0, .int .u64 0, .int .u64 0, .string s, .string t_ann, .int .i64 9, .int .i64 0] 35)))
          replace e_b := Lib.hid (e_b.out.on (BW_alloc (BW_refl _) (.cells #[.int .i64 1, .string t_c6, .string t_c5, .string t_c6x, .int .u64 (m : Int), .int .u64 0, .int .u64 0, .int .u64 0, .string s, .string t_ann, .int .i64 9, .int .i64 0] 35)))
          replace BB := BW_on BB (BW_alloc (BW_refl _) (.cells #[.int .i64 1, .string t_c6, .string t_c5, .string t_c6x, .int .u64 (m : Int), .int .u64 0, .int .u64 0, .int .u64 0, .string s, .string t_ann, .int .i64 9, .int .i64 0] 35))
          have k_q := blk1 w22 35 #[.int .i64 1, .string t_c6, .string t_c5, .string t_c6x, .int .u64 (m : Int), .int .u64 0, .int .u64 0, .int .u64 0, .string s, .string t_ann, .int .i64 9, .int .i64 0]
          have c_b := fun i => k_b.cell i
          have c_q := fun i => k_q.cell i
          go_wp2_with fail
          refine (HC.out _ _ e_b.out).mono ?_
          rintro e w24 ⟨qc, cc, rfl, hen, hb⟩
          clear c_b c_q
          replace k_d := k_d.on hb
          replace k_t := k_t.on hb
          replace k_p := k_p.on hb
          replace k_a := k_a.on hb
          replace k_b := k_b.on hb
          replace k_q := k_q.on hb
          replace e_d := Lib.hid (e_d.out.on hb)
          replace e_a := Lib.hid (e_a.out.on hb)
          replace e_b := Lib.hid (e_b.out.on hb)
          replace BB := BW_on BB hb
          replace k_d := k_d.on (BW_alloc (BW_refl _) (.cells #[.slice qc 0 cc] 27))
          replace k_t := k_t.on (BW_alloc (BW_refl _) (.cells #[.slice qc 0 cc] 27))
          replace k_p := k_p.on (BW_alloc (BW_refl _) (.cells #[.slice qc 0 cc] 27))
          replace k_a := k_a.on (BW_alloc (BW_refl _) (.cells #[.slice qc 0 cc] 27))
          replace k_b := k_b.on (BW_alloc (BW_refl _) (.cells #[.slice qc 0 cc] 27))
          replace k_q := k_q.on (BW_alloc (BW_refl _) (.cells #[.slice qc 0 cc] 27))
          replace e_d := Lib.hid (e_d.out.on (BW_alloc (BW_refl _) (.cells #[.slice qc 0 cc] 27)))
          replace e_a := Lib.hid (e_a.out.on (BW_alloc (BW_refl _) (.cells #[.slice qc 0 cc] 27)))
          replace e_b := Lib.hid (e_b.out.on (BW_alloc (BW_refl _) (.cells #[.slice qc 0 cc] 27)))
          replace BB := BW_on BB (BW_alloc (BW_refl _) (.cells #[.slice qc 0 cc] 27))
          have k_c := blk1 w24 27 #[.slice qc 0 cc]
          have e_c : Hid (Ents _ (.slice qc 0 cc) []) := Lib.hid (hen.on (BW_alloc (BW_refl _) (.cells #[.slice qc 0 cc] 27)))
          clear hen hb HC
          have c_a := fun i => k_a.cell i
          have c_q := fun i => k_q.cell i
          go_wp2_with fail
          refine (HD.out _ _ e_a.out).mono ?_
          rintro e w25 ⟨qh, ch, rfl, hen, hb⟩
          clear c_a c_q
          replace k_d := k_d.on hb
          replace k_t := k_t.on hb
          replace k_p := k_p.on hb
          replace k_a := k_a.on hb
          replace k_b := k_b.on hb
          replace k_q := k_q.on hb
          replace k_c := k_c.on hb
          replace e_d := Lib.hid (e_d.out.on hb)
          replace e_a := Lib.hid (e_a.out.on hb)
          replace e_b := Lib.hid (e_b.out.on hb)
          replace e_c := Lib.hid (e_c.out.on hb)
          replace BB := BW_on BB hb
          replace k_d := k_d.on (BW_alloc (BW_refl _) (.cells #[.slice qh S17.length ch] 27))
          replace k_t := k_t.on (BW_alloc (BW_refl _) (.cells #[.slice qh S17.length ch] 27))
          replace k_p := k_p.on (BW_alloc (BW_refl _) (.cells #[.slice qh S17.length ch] 27))
          replace k_a := k_a.on (BW_alloc (BW_refl _) (.cells #[.slice qh S17.length ch] 27))
          replace k_b := k_b.on (BW_alloc (BW_refl _) (.cells #[.slice qh S17.length ch] 27))
          replace k_q := k_q.on (BW_alloc (BW_refl _) (.cells #[.slice qh S17.length ch] 27))
          replace k_c := k_c.on (BW_alloc (BW_refl _) (.cells #[.slice qh S17.length ch] 27))
          replace e_d := Lib.hid (e_d.out.on (BW_alloc (BW_refl _) (.cells #[.slice qh S17.length ch] 27)))
          replace e_a := Lib.hid (e_a.out.on (BW_alloc (BW_refl _) (.cells #[.slice qh S17.length ch] 27)))
          replace e_b := Lib.hid (e_b.out.on (BW_alloc (BW_refl _) (.cells #[.slice qh S17.length ch] 27)))
          replace e_c := Lib.hid (e_c.out.on (BW_alloc (BW_refl _) (.cells #[.slice qh S17.length ch] 27)))
          replace BB := BW_on BB (BW_alloc (BW_refl _) (.cells #[.slice qh S17.length ch] 27))
          have k_h := blk1 w25 27 #[.slice qh S17.length ch]
          have e_h := Lib.hid (hen.on (BW_alloc (BW_refl _) (.cells #[.slice qh S17.length ch] 27)))
          clear hen hb HD
          have c_q := fun i => k_q.cell i
          go_wp2_with fail
          refine (HH2.out _).mono ?_
          rintro e w26 ⟨rfl, hb⟩
          clear c_q
          replace k_d := k_d.on hb
          replace k_t := k_t.on hb
          replace k_p := k_p.on hb
          replace k_a := k_a.on hb
          replace k_b := k_b.on hb
          replace k_q := k_q.on hb
          replace k_c := k_c.on hb
          replace k_h := k_h.on hb
          replace e_d := Lib.hid (e_d.out.on hb)
          replace e_a := Lib.hid (e_a.out.on hb)
          replace e_b := Lib.hid (e_b.out.on hb)
          replace e_c := Lib.hid (e_c.out.on hb)
          replace e_h := Lib.hid (e_h.out.on hb)
          replace BB := BW_on BB hb
          clear hb HH2
          have c_q := fun i => k_q.cell i
          go_wp2_with fail
          refine (HA2.out _).mono ?_
          rintro e w27 ⟨rfl, hb⟩
          clear c_q
          replace k_d := k_d.on hb
          replace k_t := k_t.on hb
          replace k_p := k_p.on hb
          replace k_a := k_a.on hb
          replace k_b := k_b.on hb
          replace k_q := k_q.on hb
          replace k_c := k_c.on hb
          replace k_h := k_h.on hb
          replace e_d := Lib.hid (e_d.out.on hb)
          replace e_a := Lib.hid (e_a.out.on hb)
          replace e_b := Lib.hid (e_b.out.on hb)
          replace e_c := Lib.hid (e_c.out.on hb)
          replace e_h := Lib.hid (e_h.out.on hb)
          replace BB := BW_on BB hb
          clear hb HA2
          have c_c := fun i => k_c.cell i
          have c_t := fun i => k_t.cell i
          go_wp2_with fail
          refine (same_any _ _ [] [] _ e_c.out (Ents.nil _) (by decide) (by decide)).mono ?_
          rintro e w28 ⟨rfl, hb⟩
          clear c_c c_t
          replace k_d := k_d.on hb
          replace k_t := k_t.on hb
          replace k_p := k_p.on hb
          replace k_a := k_a.on hb
          replace k_b := k_b.on hb
          replace k_q := k_q.on hb
          replace k_c := k_c.on hb
          replace k_h := k_h.on hb
          replace e_d := Lib.hid (e_d.out.on hb)
          replace e_a := Lib.hid (e_a.out.on hb)
          replace e_b := Lib.hid (e_b.out.on hb)
          replace e_c := Lib.hid (e_c.out.on hb)
          replace e_h := Lib.hid (e_h.out.on hb)
          replace BB := BW_on BB hb
          rw [decide_eq_true rfl]
          clear hb
          have c_h := fun i => k_h.cell i
          have c_d := fun i => k_d.cell i
          go_wp2_with fail
          refine (same_any _ _ S17 S17 _ e_h.out e_d.out (by omega) (by omega)).mono ?_
          rintro e w29 ⟨rfl, hb⟩
          clear c_h c_d
          replace k_d := k_d.on hb
          replace k_t := k_t.on hb
          replace k_p := k_p.on hb
          replace k_a := k_a.on hb
          replace k_b := k_b.on hb
          replace k_q := k_q.on hb
          replace k_c := k_c.on hb
          replace k_h := k_h.on hb
          replace e_d := Lib.hid (e_d.out.on hb)
          replace e_a := Lib.hid (e_a.out.on hb)
          replace e_b := Lib.hid (e_b.out.on hb)
          replace e_c := Lib.hid (e_c.out.on hb)
          replace e_h := Lib.hid (e_h.out.on hb)
          replace BB := BW_on BB hb
          rw [decide_eq_true rfl]
          clear hb
          go_wp2_with fail
          go_ret
          exact ⟨rfl, BB⟩
        · have hno := rd_no false ⟨m, hm⟩ okS (by show (sendL S17 1 9 0 t_c5 t_c6 t_x t_ann s m).1 ≠ 0; rw [hR]; exact hx)
          clear hR LS okS
          rcases hno with h0 | h7
          · have em0 : bits .and .u64 n 15 = 0 := by rw [em]; exact congrArg Nat.cast h0
            clear em h0
            go_wp2_with fail
            go_ret
            exact ⟨rfl, BB⟩
          · have h7i : (7 : Int) < (m : Int) := by have : 7 < m := h7; omega
            have h0i : ¬ ((m : Int) = 0) := by omega
            clear h7
            go_wp2_with fail
            go_ret
            exact ⟨rfl, BB⟩
      · have LS := limb_small (n := m) (by omega)
        have HA := fun v w hv => send_any v S17 1 9 0 t_c5 t_c6 t_c1x t_bob s m w hv S17_srt (by have := S17_len; omega) (by decide) (by decide) (by decide) (by decide) (by omega) (W256.small (by omega))
        rw [LS.1, LS.2.1, LS.2.2.1, LS.2.2.2] at HA
        rcases hR : sendL S17 1 9 0 t_c5 t_c6 t_c1x t_bob s m with ⟨x, A⟩
        rw [hR] at HA
        replace HA := Lib.hid HA
        have hac : ∀ w, (Op.stringOp .add ⟨#[99, 54, 47]⟩ ⟨#[99, 49, 47, 120]⟩).run Tryz.prog w = .ok (.string t_c6c) w := cat_littrue
        go_wp2_with fail
        refine (start17_any _).mono ?_
        rintro e w2 ⟨vs, rfl, hst, hb⟩
        replace BB := BW_on BB hb
        have e_s := Lib.hid hst
        clear hst hb cs
        go_wp2_with fail
        refine (HO.out _ _ e_s.out).mono ?_
        rintro e w3 ⟨vd, rfl, hd, hb⟩
        replace BB := BW_on BB hb
        obtain ⟨q0, c0, rfl⟩ := hd.len
        have e_d := Lib.hid hd
        clear hd hb e_s HO
        replace e_d := Lib.hid (e_d.out.on (BW_alloc (BW_refl _) (.cells #[.slice q0 S17.length c0] 27)))
        replace BB := BW_on BB (BW_alloc (BW_refl _) (.cells #[.slice q0 S17.length c0] 27))
        have k_d := blk1 w3 27 #[.slice q0 S17.length c0]
        have k_t := blk2 w3 (.cells #[.slice q0 S17.length c0] 27) 27 #[.slice none 0 0]
        replace k_d := k_d.on (BW_alloc (BW_refl _) (.cells #[.slice none 0 0] 27))
        replace e_d := Lib.hid (e_d.out.on (BW_alloc (BW_refl _) (.cells #[.slice none 0 0] 27)))
        replace BB := BW_on BB (BW_alloc (BW_refl _) (.cells #[.slice none 0 0] 27))
        replace k_d := k_d.on (BW_alloc (BW_refl _) (.cells #[.int .i64 1, .string t_c5, .string t_c6, .string t_c1x, .int .u64 (m : Int), .int .u64 0, .int .u64 0, .int .u64 0, .string t_bob, .string s, .int .i64 9, .int .i64 0] 35))
        replace k_t := k_t.on (BW_alloc (BW_refl _) (.cells #[.int .i64 1, .string t_c5, .string t_c6, .string t_c1x, .int .u64 (m : Int), .int .u64 0, .int .u64 0, .int .u64 0, .string t_bob, .string s, .int .i64 9, .int .i64 0] 35))
        replace e_d := Lib.hid (e_d.out.on (BW_alloc (BW_refl _) (.cells #[.int .i64 1, .string t_c5, .string t_c6, .string t_c1x, .int .u64 (m : Int), .int .u64 0, .int .u64 0, .int .u64 0, .string t_bob, .string s, .int .i64 9, .int .i64 0] 35)))
        replace BB := BW_on BB (BW_alloc (BW_refl _) (.cells #[.int .i64 1, .string t_c5, .string t_c6, .string t_c1x, .int .u64 (m : Int), .int .u64 0, .int .u64 0, .int .u64 0, .string t_bob, .string s, .int .i64 9, .int .i64 0] 35))
        have k_p := blk3 w3 (.cells #[.slice q0 S17.length c0] 27) (.cells #[.slice none 0 0] 27) 35 #[.int .i64 1, .string t_c5, .string t_c6, .string t_c1x, .int .u64 (m : Int), .int .u64 0, .int .u64 0, .int .u64 0, .string t_bob, .string s, .int .i64 9, .int .i64 0]
        have c_d := fun i => k_d.cell i
        have c_p := fun i => k_p.cell i
        go_wp2_with fail
        refine (HA.out _ _ e_d.out).mono ?_
        rintro e wq4 ⟨qa, ca, rfl, hen, hb⟩
        clear c_d c_p
        replace k_d := k_d.on hb
        replace k_t := k_t.on hb
        replace k_p := k_p.on hb
        replace e_d := Lib.hid (e_d.out.on hb)
        replace BB := BW_on BB hb
        replace k_d := k_d.on (BW_alloc (BW_refl _) (.cells #[.slice qa A.length ca] 27))
        replace k_t := k_t.on (BW_alloc (BW_refl _) (.cells #[.slice qa A.length ca] 27))
        replace k_p := k_p.on (BW_alloc (BW_refl _) (.cells #[.slice qa A.length ca] 27))
        replace e_d := Lib.hid (e_d.out.on (BW_alloc (BW_refl _) (.cells #[.slice qa A.length ca] 27)))
        replace BB := BW_on BB (BW_alloc (BW_refl _) (.cells #[.slice qa A.length ca] 27))
        have k_a := blk1 wq4 27 #[.slice qa A.length ca]
        have e_a := Lib.hid (hen.on (BW_alloc (BW_refl _) (.cells #[.slice qa A.length ca] 27)))
        clear hen hb HA
        by_cases hx : x = 0
        · obtain ⟨hm0, hm1, hse, hmv⟩ := rd_yes true ⟨m, hm⟩ okS (by show (sendL S17 1 9 0 t_c5 t_c6 t_c1x t_bob s m).1 = 0; rw [hR]; exact hx)
          obtain rfl : A = rdE true m := by have h := hR.symm.trans hse; exact (Prod.mk.inj h).2
          subst hx
          clear hR hse
          obtain ⟨lA, rA⟩ := rdE_len true m
          obtain ⟨lB, rB⟩ := rdB_len true s m
          have HB := fun v w hv => recv_any v [] 1 9 0 t_c5 t_c6 t_c1x t_bob s m w hv List.Pairwise.nil (by decide) (by decide) (by decide) (by decide) (by decide) (by omega) (W256.small (by omega))
          rw [LS.1, LS.2.1, LS.2.2.1, LS.2.2.2] at HB
          rw [show recvL [] 1 9 0 t_c5 t_c6 t_c1x t_bob s m = (0, rdB true s m) from rd_recv true ⟨m, hm⟩ hm0 okS] at HB
          replace HB := Lib.hid HB
          have HC := fun v w hv => send_any v (rdB true s m) 1 9 0 t_c6 t_c5 t_c6c s t_bob m w hv rB (by omega) (by decide) (by decide) (by decide) (by omega) (by decide) (W256.small (by omega))
          rw [LS.1, LS.2.1, LS.2.2.1, LS.2.2.2] at HC
          rw [show sendL (rdB true s m) 1 9 0 t_c6 t_c5 t_c6c s t_bob m = (0, []) from rd_back1 true ⟨m, hm⟩ hm0 okS] at HC
          replace HC := Lib.hid HC
          have HD := fun v w hv => recv_any v (rdE true m) 1 9 0 t_c6 t_c5 t_c6c s t_bob m w hv rA (by omega) (by decide) (by decide) (by decide) (by omega) (by decide) (W256.small (by omega))
          rw [LS.1, LS.2.1, LS.2.2.1, LS.2.2.2] at HD
          rw [show recvL (rdE true m) 1 9 0 t_c6 t_c5 t_c6c s t_bob m = (0, S17) from rd_back2 true ⟨m, hm⟩ hm0 okS hmv] at HD
          replace HD := Lib.hid HD
          have HH1 := fun w => home17_any 1 9 0 t_c5 t_c6 t_c1x t_bob s m w (by decide) (by decide)
          rw [LS.1, LS.2.1, LS.2.2.1, LS.2.2.2, show homeB t_c5 t_c1x = false from (rd_home true).1] at HH1
          replace HH1 := Lib.hid HH1
          have HA1 := fun w => arr17_any 1 9 0 t_c5 t_c6 t_c1x t_bob s m w (by decide) (by decide) (by decide)
          rw [LS.1, LS.2.1, LS.2.2.1, LS.2.2.2, show arrB t_c5 t_c6 t_c1x = t_c6c from (rd_arr true).1] at HA1
          replace HA1 := Lib.hid HA1
          have HH2 := fun w => home17_any 1 9 0 t_c6 t_c5 t_c6c s t_bob m w (by decide) (by decide)
          rw [LS.1, LS.2.1, LS.2.2.1, LS.2.2.2, show homeB t_c6 t_c6c = true from (rd_home true).2] at HH2
          replace HH2 := Lib.hid HH2
          have HA2 := fun w => arr17_any 1 9 0 t_c6 t_c5 t_c6c s t_bob m w (by decide) (by decide) (by decide)
          rw [LS.1, LS.2.1, LS.2.2.1, LS.2.2.2, show arrB t_c6 t_c5 t_c6c = ⟨#[99, 49, 47, 120]⟩ from (rd_arr true).2] at HA2
          replace HA2 := Lib.hid HA2
          have B1 := fun v w hv => r11bal_any v (rdE true m) t_esc5 t_c1x w hv (by omega) (by decide) (by decide)
          rw [show ng (rdE true m) (keyB t_esc5 t_c1x) = m from rd_bal true ⟨m, hm⟩ hm1, wv_small (n := m) (by omega)] at B1
          replace B1 := Lib.hid B1
          have B2 := fun v w hv => r11sup_any v (rdB true s m) t_c6c w hv (by omega) (by decide)
          rw [show ng (rdB true s m) (totB t_c6c) = m from rd_sup true ⟨m, hm⟩ hm0 okS, wv_small (n := m) (by omega)] at B2
          replace B2 := Lib.hid B2
          have HE := Lib.hid (fun w => eqW17 (m : Int) 0 0 0 w)
          clear hmv hm1 rA rB LS okS
          generalize rdE true m = A at *
          generalize rdB true s m = B at *
          have c_t := fun i => k_t.cell i
          have c_p := fun i => k_p.cell i
          go_wp2_with fail
          refine (HB.out _ _ (Ents.nil _)).mono ?_
          rintro e wq5 ⟨qb, cb, rfl, hen, hb⟩
          clear c_t c_p
          replace k_d := k_d.on hb
          replace k_t := k_t.on hb
          replace k_p := k_p.on hb
          replace k_a := k_a.on hb
          replace e_d := Lib.hid (e_d.out.on hb)
          replace e_a := Lib.hid (e_a.out.on hb)
          replace BB := BW_on BB hb
          replace k_d := k_d.on (BW_alloc (BW_refl _) (.cells #[.slice qb B.length cb] 27))
          replace k_t := k_t.on (BW_alloc (BW_refl _) (.cells #[.slice qb B.length cb] 27))
          replace k_p := k_p.on (BW_alloc (BW_refl _) (.cells #[.slice qb B.length cb] 27))
          replace k_a := k_a.on (BW_alloc (BW_refl _) (.cells #[.slice qb B.length cb] 27))
          replace e_d := Lib.hid (e_d.out.on (BW_alloc (BW_refl _) (.cells #[.slice qb B.length cb] 27)))
          replace e_a := Lib.hid (e_a.out.on (BW_alloc (BW_refl _) (.cells #[.slice qb B.length cb] 27)))
          replace BB := BW_on BB (BW_alloc (BW_refl _) (.cells #[.slice qb B.length cb] 27))
          have k_b := blk1 wq5 27 #[.slice qb B.length cb]
          have e_b := Lib.hid (hen.on (BW_alloc (BW_refl _) (.cells #[.slice qb B.length cb] 27)))
          clear hen hb HB
          go_upto_region 21 with (fail)
          change Code.wp _ _ _ _ (wq5.alloc (.cells #[.slice qb B.length cb] 27))
          have hgp : w3.heap.size + 1 + 1 = w3.heap.size + 1 + 1 := rfl
          generalize hV5 : wq5.alloc (.cells #[.slice qb B.length cb] 27) = V5 at *
          clear hV5
          have hS17l := S17_len
          refine wp_region_held_drew (S := BxS V5 [((w3.heap.size + 1 + 1), 35, #[.int .i64 1, .string t_c5, .string t_c6, .string t_c1x, .int .u64 (m : Int), .int .u64 0, .int .u64 0, .int .u64 0, .string t_bob, .string s, .int .i64 9, .int .i64 0]), (wq4.heap.size, 27, #[.slice qa A.length ca]), (wq5.heap.size, 27, #[.slice qb B.length cb])]) (by kernel_rfl) (((((BxS.nil (BW_refl V5)).cons k_b).cons k_a).cons k_p)).drew (fun hH0 => ?_)
          refine wpAnyH_take (i := 0) (v := .int .i64 0) rfl (by kernel_rfl) (by kernel_rfl) (by kernel_rfl) (fun _ _ _ h => h) (yk_move (by kernel_rfl) _ rfl _ (by kernel_rfl)) hH0 ?_
          refine wpAnyH_take (i := 1) (v := .bool false) rfl (by kernel_rfl) (by kernel_rfl) (by kernel_rfl) (fun _ _ _ h => h) (yk_bin (by kernel_rfl) _ _ _ _ _ rfl (.int .i64 0) (.int .i64 0) (by kernel_rfl) (by kernel_rfl) _ (fun w' hw' => by go_simp)) hH0 ?_
          refine wpAnyH_take (i := 2) (v := .bool false) rfl (by kernel_rfl) (by kernel_rfl) (by kernel_rfl) (fun _ _ _ h => h) (yk_move (by kernel_rfl) _ rfl _ (by kernel_rfl)) hH0 ?_
          refine wpAnyH_take (i := 3) (v := .agg #[.int .i64 1, .string t_c5, .string t_c6, .string t_c1x, .int .u64 (m : Int), .int .u64 0, .int .u64 0, .int .u64 0, .string t_bob, .string s, .int .i64 9, .int .i64 0]) rfl (by kernel_rfl) (by kernel_rfl) (by kernel_rfl) (fun _ _ _ h => h) (yk_load (by kernel_rfl) _ _ rfl (.pointer (some ⟨(w3.heap.size + 1 + 1), 0, none⟩)) (by kernel_rfl) _ (fun w' hw' => by have c0 := (hw'.bl _ (.head _)).cell 0; have c1 := (hw'.bl _ (.head _)).cell 1; have c2 := (hw'.bl _ (.head _)).cell 2; have c3 := (hw'.bl _ (.head _)).cell 3; have c4 := (hw'.bl _ (.head _)).cell 4; have c5 := (hw'.bl _ (.head _)).cell 5; have c6 := (hw'.bl _ (.head _)).cell 6; have c7 := (hw'.bl _ (.head _)).cell 7; have c8 := (hw'.bl _ (.head _)).cell 8; have c9 := (hw'.bl _ (.head _)).cell 9; have c10 := (hw'.bl _ (.head _)).cell 10; have c11 := (hw'.bl _ (.head _)).cell 11; go_simp)) hH0 ?_
          refine wpAnyH_ready (rs := [4]) (by kernel_rfl) (by simp) ?_
          refine AllReadyH.cons rfl (fun K hK => ?_) AllReadyH.nil
          go_simp
          go_at_call 18
          refine (HH1.out _).mono ?_
          rintro e w4 ⟨rfl, hd4⟩
          go_wp2_with fail
          refine hK.out _ _ (hH0.on hd4) (fun hH1 => ?_)
          clear hK K
          refine wpAnyH_take (i := 5) (v := .bool false) rfl (by kernel_rfl) (by kernel_rfl) (by kernel_rfl) (fun _ _ _ h => h) (yk_pick (by kernel_rfl) _ _ _ rfl false (by kernel_rfl) _ (by kernel_rfl)) hH1 ?_
          refine wpAnyH_take (i := 6) (v := .bool false) rfl (by kernel_rfl) (by kernel_rfl) (by kernel_rfl) (fun _ _ _ h => h) (yk_move (by kernel_rfl) _ rfl _ (by kernel_rfl)) hH1 ?_
          refine wpAnyH_take (i := 7) (v := .agg #[.int .i64 1, .string t_c5, .string t_c6, .string t_c1x, .int .u64 (m : Int), .int .u64 0, .int .u64 0, .int .u64 0, .string t_bob, .string s, .int .i64 9, .int .i64 0]) rfl (by kernel_rfl) (by kernel_rfl) (by kernel_rfl) (fun _ _ _ h => h) (yk_load (by kernel_rfl) _ _ rfl (.pointer (some ⟨(w3.heap.size + 1 + 1), 0, none⟩)) (by kernel_rfl) _ (fun w' hw' => by have c0 := (hw'.bl _ (.head _)).cell 0; have c1 := (hw'.bl _ (.head _)).cell 1; have c2 := (hw'.bl _ (.head _)).cell 2; have c3 := (hw'.bl _ (.head _)).cell 3; have c4 := (hw'.bl _ (.head _)).cell 4; have c5 := (hw'.bl _ (.head _)).cell 5; have c6 := (hw'.bl _ (.head _)).cell 6; have c7 := (hw'.bl _ (.head _)).cell 7; have c8 := (hw'.bl _ (.head _)).cell 8; have c9 := (hw'.bl _ (.head _)).cell 9; have c10 := (hw'.bl _ (.head _)).cell 10; have c11 := (hw'.bl _ (.head _)).cell 11; go_simp)) hH1 ?_
          refine wpAnyH_take (i := 9) (v := .string ⟨#[99, 49, 47, 120]⟩) rfl (by kernel_rfl) (by kernel_rfl) (by kernel_rfl) (fun _ _ _ h => h) (yk_move (by kernel_rfl) _ rfl _ (by kernel_rfl)) hH1 ?_
          refine wpAnyH_take (i := 10) (v := .string t_c6c) rfl (by kernel_rfl) (by kernel_rfl) (by kernel_rfl) (fun _ _ _ h => h) (yk_bin (by kernel_rfl) _ _ _ _ _ rfl (.string { data := #[99, 54, 47] }) (.string ⟨#[99, 49, 47, 120]⟩) (by kernel_rfl) (by kernel_rfl) _ (fun w' hw' => by have h0 := hac w'; go_simp)) hH1 ?_
          refine wpAnyH_ready (rs := [8]) (by kernel_rfl) (by simp) ?_
          refine AllReadyH.cons rfl (fun K hK => ?_) AllReadyH.nil
          go_simp
          go_at_call 20
          refine (HA1.out _).mono ?_
          rintro e w8 ⟨rfl, hd8⟩
          go_wp2_with fail
          refine hK.out _ _ (hH1.on hd8) (fun hH2 => ?_)
          clear hK K
          refine wpAnyH_take (i := 11) (v := .bool false) rfl (by kernel_rfl) (by kernel_rfl) (by kernel_rfl) (fun _ _ _ h => h) (yk_bin (by kernel_rfl) _ _ _ _ _ rfl (.string t_c6c) (.string t_c6c) (by kernel_rfl) (by kernel_rfl) _ (fun w' hw' => by go_simp)) hH2 ?_
          refine wpAnyH_take (i := 12) (v := .bool false) rfl (by kernel_rfl) (by kernel_rfl) (by kernel_rfl) (fun _ _ _ h => h) (yk_pick (by kernel_rfl) _ _ _ rfl false (by kernel_rfl) _ (by kernel_rfl)) hH2 ?_
          refine wpAnyH_take (i := 13) (v := .bool false) rfl (by kernel_rfl) (by kernel_rfl) (by kernel_rfl) (fun _ _ _ h => h) (yk_move (by kernel_rfl) _ rfl _ (by kernel_rfl)) hH2 ?_
          refine wpAnyH_take (i := 14) (v := .agg #[.slice qa A.length ca]) rfl (by kernel_rfl) (by kernel_rfl) (by kernel_rfl) (fun _ _ _ h => h) (yk_load (by kernel_rfl) _ _ rfl (.pointer (some ⟨wq4.heap.size, 0, none⟩)) (by kernel_rfl) _ (fun w' hw' => by have c0 := (hw'.bl _ (.tail _ (.head _))).cell 0; go_simp)) hH2 ?_
          refine wpAnyH_take (i := 16) (v := .string ⟨#[99, 49, 47, 120]⟩) rfl (by kernel_rfl) (by kernel_rfl) (by kernel_rfl) (fun _ _ _ h => h) (yk_move (by kernel_rfl) _ rfl _ (by kernel_rfl)) hH2 ?_
          refine wpAnyH_take (i := 18) (v := .agg #[.slice qb B.length cb]) rfl (by kernel_rfl) (by kernel_rfl) (by kernel_rfl) (fun _ _ _ h => h) (yk_load (by kernel_rfl) _ _ rfl (.pointer (some ⟨wq5.heap.size, 0, none⟩)) (by kernel_rfl) _ (fun w' hw' => by have c0 := (hw'.bl _ (.tail _ (.tail _ (.head _)))).cell 0; go_simp)) hH2 ?_
          refine wpAnyH_take (i := 20) (v := .string ⟨#[99, 49, 47, 120]⟩) rfl (by kernel_rfl) (by kernel_rfl) (by kernel_rfl) (fun _ _ _ h => h) (yk_move (by kernel_rfl) _ rfl _ (by kernel_rfl)) hH2 ?_
          refine wpAnyH_take (i := 21) (v := .string t_c6c) rfl (by kernel_rfl) (by kernel_rfl) (by kernel_rfl) (fun _ _ _ h => h) (yk_bin (by kernel_rfl) _ _ _ _ _ rfl (.string { data := #[99, 54, 47] }) (.string ⟨#[99, 49, 47, 120]⟩) (by kernel_rfl) (by kernel_rfl) _ (fun w' hw' => by have h0 := hac w'; go_simp)) hH2 ?_
          refine wpAnyH_ready (rs := [15]) (by kernel_rfl) (by simp) ?_
          refine AllReadyH.cons rfl (fun K hK => ?_) AllReadyH.nil
          go_simp
          go_at_call 17
          refine (all_any _ A _ (e_a.out.on hH2.hb) (by omega)).mono ?_
          rintro e w15 ⟨v15, rfl, hown15, hd15⟩
          have e15 := own_ents hown15
          go_wp2_with fail
          refine hK.out _ _ (hH2.on hd15) (fun hH3 => ?_)
          clear hK K
          refine wpAnyH_ready (rs := [17]) (by kernel_rfl) (by simp) ?_
          refine AllReadyH.cons rfl (fun K hK => ?_) AllReadyH.nil
          go_simp
          go_at_call 24
          refine (B1.out _ _ e15).mono ?_
          rintro e w17 ⟨rfl, hd17⟩
          go_wp2_with fail
          refine hK.out _ _ (hH3.on hd17) (fun hH4 => ?_)
          clear hK K
          refine wpAnyH_ready (rs := [19]) (by kernel_rfl) (by simp) ?_
          refine AllReadyH.cons rfl (fun K hK => ?_) AllReadyH.nil
          go_simp
          go_at_call 17
          refine (all_any _ B _ (e_b.out.on hH4.hb) (by omega)).mono ?_
          rintro e w19 ⟨v19, rfl, hown19, hd19⟩
          have e19 := own_ents hown19
          go_wp2_with fail
          refine hK.out _ _ (hH4.on hd19) (fun hH5 => ?_)
          clear hK K
          refine wpAnyH_ready (rs := [22]) (by kernel_rfl) (by simp) ?_
          refine AllReadyH.cons rfl (fun K hK => ?_) AllReadyH.nil
          go_simp
          go_at_call 25
          refine (B2.out _ _ e19).mono ?_
          rintro e w22 ⟨rfl, hd22⟩
          go_wp2_with fail
          refine hK.out _ _ (hH5.on hd22) (fun hH6 => ?_)
          clear hK K
          refine wpAnyH_take (i := 23) (v := .bool false) rfl (by kernel_rfl) (by kernel_rfl) (by kernel_rfl) (fun _ _ _ h => h) (yk_bin (by kernel_rfl) _ _ _ _ _ rfl (.agg #[.int .u64 (m : Int), .int .u64 0, .int .u64 0, .int .u64 0]) (.agg #[.int .u64 (m : Int), .int .u64 0, .int .u64 0, .int .u64 0]) (by kernel_rfl) (by kernel_rfl) _ (fun w' hw' => by have h0 := HE.out w'; go_simp)) hH6 ?_
          refine wpAnyH_take (i := 24) (v := .bool false) rfl (by kernel_rfl) (by kernel_rfl) (by kernel_rfl) (fun _ _ _ h => h) (yk_pick (by kernel_rfl) _ _ _ rfl false (by kernel_rfl) _ (by kernel_rfl)) hH6 ?_
          refine wpAnyH_done (by kernel_rfl) ?_ _
          have hbz := hH6.hb
          replace k_d := k_d.on hbz
          replace k_t := k_t.on hbz
          replace k_p := k_p.on hbz
          replace k_a := k_a.on hbz
          replace k_b := k_b.on hbz
          replace e_d := Lib.hid (e_d.out.on hbz)
          replace e_a := Lib.hid (e_a.out.on hbz)
          replace e_b := Lib.hid (e_b.out.on hbz)
          replace BB := BW_on BB hbz
          clear hH0 hH1 hH2 hH3 hH4 hH5 hH6 hbz hd4 hd8 hd15 hd17 hd19 hd22 hown15 hown19 e15 e19 HH1 HA1 B1 B2 HE
          have c_p := fun i => k_p.cell i
          go_upto_region 24 with (fail)
          change Code.wp _ _ _ _ (w22.alloc (.cells #[.int .i64 1, .string t_c6, .string t_c5, .string t_c6c, .int .u64 (m : Int), .int .u64 0, .int .u64 0, .int .u64 0, .string s, .string t_bob, .int .i64 9, .int .i64 0] 35))
          clear c_p
          replace k_d := k_d.on (BW_alloc (BW_refl _) (.cells #[.int .i64 1, .string t_c6, .string t_c5, .string t_c6c, .int .u64 (m : Int), .int .u64 0, .int .u64 0, .int .u64 0, .string s, .string t_bob, .int .i64 9, .int .i64 0] 35))
          replace k_t := k_t.on (BW_alloc (BW_refl _) (.cells #[.int .i64 1, .string t_c6, .string t_c5, .string t_c6c, .int .u64 (m : Int), .int .u64 0, .int .u64 0, .int .u64 0, .string s, .string t_bob, .int .i64 9, .int .i64 0] 35))
          replace k_p := k_p.on (BW_alloc (BW_refl _) (.cells #[.int .i64 1, .string t_c6, .string t_c5, .string t_c6c, .int .u64 (m : Int), .int .u64 0, .int .u64 0, .int .u64 0, .string s, .string t_bob, .int .i64 9, .int .i64 0] 35))
          replace k_a := k_a.on (BW_alloc (BW_refl _) (.cells #[.int .i64 1, .string t_c6, .string t_c5, .string t_c6c, .int .u64 (m : Int), .int .u64 0, .int .u64 0, .int .u64 0, .string s, .string t_bob, .int .i64 9, .int .i64 0] 35))
          replace k_b := k_b.on (BW_alloc (BW_refl _) (.cells #[.int .i64 1, .string t_c6, .string t_c5, .string t_c6c, .int .u64 (m : Int), .int .u64 0, .int .u64 0, .int .u64 0, .string s, .string t_bob, .int .i64 9, .int .i64 0] 35))
          replace e_d := Lib.hid (e_d.out.on (BW_alloc (BW_refl _) (.cells #[.int .i64 1, .string t_c6, .string t_c5, .string t_c6c, .int .u64 (m : Int), .int .u64 0, .int .u64 0, .int .u64 0, .string s, .string t_bob, .int .i64 9, .int .i64 0] 35)))
          replace e_a := Lib.hid (e_a.out.on (BW_alloc (BW_refl _) (.cells #[.int .i64 1, .string t_c6, .string t_c5, .string t_c6c, .int .u64 (m : Int), .int .u64 0, .int .u64 0, .int .u64 0, .string s, .string t_bob, .int .i64 9, .int .i64 0] 35)))
          replace e_b := Lib.hid (e_b.out.on (BW_alloc (BW_refl _) (.cells #[.int .i64 1, .string t_c6, .string t_c5, .string t_c6c, .int .u64 (m : Int), .int .u64 0, .int .u64 0, .int .u64 0, .string s, .string t_bob, .int .i64 9, .int .i64 0] 35)))
          replace BB := BW_on BB (BW_alloc (BW_refl _) (.cells #[.int .i64 1, .string t_c6, .string t_c5, .string t_c6c, .int .u64 (m : Int), .int .u64 0, .int .u64 0, .int .u64 0, .string s, .string t_bob, .int .i64 9, .int .i64 0] 35))
          have k_q := blk1 w22 35 #[.int .i64 1, .string t_c6, .string t_c5, .string t_c6c, .int .u64 (m : Int), .int .u64 0, .int .u64 0, .int .u64 0, .string s, .string t_bob, .int .i64 9, .int .i64 0]
          have c_b := fun i => k_b.cell i
          have c_q := fun i => k_q.cell i
          go_wp2_with fail
          refine (HC.out _ _ e_b.out).mono ?_
          rintro e w24 ⟨qc, cc, rfl, hen, hb⟩
          clear c_b c_q
          replace k_d := k_d.on hb
          replace k_t := k_t.on hb
          replace k_p := k_p.on hb
          replace k_a := k_a.on hb
          replace k_b := k_b.on hb
          replace k_q := k_q.on hb
          replace e_d := Lib.hid (e_d.out.on hb)
          replace e_a := Lib.hid (e_a.out.on hb)
          replace e_b := Lib.hid (e_b.out.on hb)
          replace BB := BW_on BB hb
          replace k_d := k_d.on (BW_alloc (BW_refl _) (.cells #[.slice qc 0 cc] 27))
          replace k_t := k_t.on (BW_alloc (BW_refl _) (.cells #[.slice qc 0 cc] 27))
          replace k_p := k_p.on (BW_alloc (BW_refl _) (.cells #[.slice qc 0 cc] 27))
          replace k_a := k_a.on (BW_alloc (BW_refl _) (.cells #[.slice qc 0 cc] 27))
          replace k_b := k_b.on (BW_alloc (BW_refl _) (.cells #[.slice qc 0 cc] 27))
          replace k_q := k_q.on (BW_alloc (BW_refl _) (.cells #[.slice qc 0 cc] 27))
          replace e_d := Lib.hid (e_d.out.on (BW_alloc (BW_refl _) (.cells #[.slice qc 0 cc] 27)))
          replace e_a := Lib.hid (e_a.out.on (BW_alloc (BW_refl _) (.cells #[.slice qc 0 cc] 27)))
          replace e_b := Lib.hid (e_b.out.on (BW_alloc (BW_refl _) (.cells #[.slice qc 0 cc] 27)))
          replace BB := BW_on BB (BW_alloc (BW_refl _) (.cells #[.slice qc 0 cc] 27))
          have k_c := blk1 w24 27 #[.slice qc 0 cc]
          have e_c : Hid (Ents _ (.slice qc 0 cc) []) := Lib.hid (hen.on (BW_alloc (BW_refl _) (.cells #[.slice qc 0 cc] 27)))
          clear hen hb HC
          have c_a := fun i => k_a.cell i
          have c_q := fun i => k_q.cell i
          go_wp2_with fail
          refine (HD.out _ _ e_a.out).mono ?_
          rintro e w25 ⟨qh, ch, rfl, hen, hb⟩
          clear c_a c_q
          replace k_d := k_d.on hb
          replace k_t := k_t.on hb
          replace k_p := k_p.on hb
          replace k_a := k_a.on hb
          replace k_b := k_b.on hb
          replace k_q := k_q.on hb
          replace k_c := k_c.on hb
          replace e_d := Lib.hid (e_d.out.on hb)
          replace e_a := Lib.hid (e_a.out.on hb)
          replace e_b := Lib.hid (e_b.out.on hb)
          replace e_c := Lib.hid (e_c.out.on hb)
          replace BB := BW_on BB hb
          replace k_d := k_d.on (BW_alloc (BW_refl _) (.cells #[.slice qh S17.length ch] 27))
          replace k_t := k_t.on (BW_alloc (BW_refl _) (.cells #[.slice qh S17.length ch] 27))
          replace k_p := k_p.on (BW_alloc (BW_refl _) (.cells #[.slice qh S17.length ch] 27))
          replace k_a := k_a.on (BW_alloc (BW_refl _) (.cells #[.slice qh S17.length ch] 27))
          replace k_b := k_b.on (BW_alloc (BW_refl _) (.cells #[.slice qh S17.length ch] 27))
          replace k_q := k_q.on (BW_alloc (BW_refl _) (.cells #[.slice qh S17.length ch] 27))
          replace k_c := k_c.on (BW_alloc (BW_refl _) (.cells #[.slice qh S17.length ch] 27))
          replace e_d := Lib.hid (e_d.out.on (BW_alloc (BW_refl _) (.cells #[.slice qh S17.length ch] 27)))
          replace e_a := Lib.hid (e_a.out.on (BW_alloc (BW_refl _) (.cells #[.slice qh S17.length ch] 27)))
          replace e_b := Lib.hid (e_b.out.on (BW_alloc (BW_refl _) (.cells #[.slice qh S17.length ch] 27)))
          replace e_c := Lib.hid (e_c.out.on (BW_alloc (BW_refl _) (.cells #[.slice qh S17.length ch] 27)))
          replace BB := BW_on BB (BW_alloc (BW_refl _) (.cells #[.slice qh S17.length ch] 27))
          have k_h := blk1 w25 27 #[.slice qh S17.length ch]
          have e_h := Lib.hid (hen.on (BW_alloc (BW_refl _) (.cells #[.slice qh S17.length ch] 27)))
          clear hen hb HD
          have c_q := fun i => k_q.cell i
          go_wp2_with fail
          refine (HH2.out _).mono ?_
          rintro e w26 ⟨rfl, hb⟩
          clear c_q
          replace k_d := k_d.on hb
          replace k_t := k_t.on hb
          replace k_p := k_p.on hb
          replace k_a := k_a.on hb
          replace k_b := k_b.on hb
          replace k_q := k_q.on hb
          replace k_c := k_c.on hb
          replace k_h := k_h.on hb
          replace e_d := Lib.hid (e_d.out.on hb)
          replace e_a := Lib.hid (e_a.out.on hb)
          replace e_b := Lib.hid (e_b.out.on hb)
          replace e_c := Lib.hid (e_c.out.on hb)
          replace e_h := Lib.hid (e_h.out.on hb)
          replace BB := BW_on BB hb
          clear hb HH2
          have c_q := fun i => k_q.cell i
          go_wp2_with fail
          refine (HA2.out _).mono ?_
          rintro e w27 ⟨rfl, hb⟩
          clear c_q
          replace k_d := k_d.on hb
          replace k_t := k_t.on hb
          replace k_p := k_p.on hb
          replace k_a := k_a.on hb
          replace k_b := k_b.on hb
          replace k_q := k_q.on hb
          replace k_c := k_c.on hb
          replace k_h := k_h.on hb
          replace e_d := Lib.hid (e_d.out.on hb)
          replace e_a := Lib.hid (e_a.out.on hb)
          replace e_b := Lib.hid (e_b.out.on hb)
          replace e_c := Lib.hid (e_c.out.on hb)
          replace e_h := Lib.hid (e_h.out.on hb)
          replace BB := BW_on BB hb
          clear hb HA2
          have c_c := fun i => k_c.cell i
          have c_t := fun i => k_t.cell i
          go_wp2_with fail
          refine (same_any _ _ [] [] _ e_c.out (Ents.nil _) (by decide) (by decide)).mono ?_
          rintro e w28 ⟨rfl, hb⟩
          clear c_c c_t
          replace k_d := k_d.on hb
          replace k_t := k_t.on hb
          replace k_p := k_p.on hb
          replace k_a := k_a.on hb
          replace k_b := k_b.on hb
          replace k_q := k_q.on hb
          replace k_c := k_c.on hb
          replace k_h := k_h.on hb
          replace e_d := Lib.hid (e_d.out.on hb)
          replace e_a := Lib.hid (e_a.out.on hb)
          replace e_b := Lib.hid (e_b.out.on hb)
          replace e_c := Lib.hid (e_c.out.on hb)
          replace e_h := Lib.hid (e_h.out.on hb)
          replace BB := BW_on BB hb
          rw [decide_eq_true rfl]
          clear hb
          have c_h := fun i => k_h.cell i
          have c_d := fun i => k_d.cell i
          go_wp2_with fail
          refine (same_any _ _ S17 S17 _ e_h.out e_d.out (by omega) (by omega)).mono ?_
          rintro e w29 ⟨rfl, hb⟩
          clear c_h c_d
          replace k_d := k_d.on hb
          replace k_t := k_t.on hb
          replace k_p := k_p.on hb
          replace k_a := k_a.on hb
          replace k_b := k_b.on hb
          replace k_q := k_q.on hb
          replace k_c := k_c.on hb
          replace k_h := k_h.on hb
          replace e_d := Lib.hid (e_d.out.on hb)
          replace e_a := Lib.hid (e_a.out.on hb)
          replace e_b := Lib.hid (e_b.out.on hb)
          replace e_c := Lib.hid (e_c.out.on hb)
          replace e_h := Lib.hid (e_h.out.on hb)
          replace BB := BW_on BB hb
          rw [decide_eq_true rfl]
          clear hb
          go_wp2_with fail
          go_ret
          exact ⟨rfl, BB⟩
        · have hno := rd_no true ⟨m, hm⟩ okS (by show (sendL S17 1 9 0 t_c5 t_c6 t_c1x t_bob s m).1 ≠ 0; rw [hR]; exact hx)
          clear hR LS okS
          rcases hno with h0 | h7
          · have em0 : bits .and .u64 n 15 = 0 := by rw [em]; exact congrArg Nat.cast h0
            clear em h0
            go_wp2_with fail
            go_ret
            exact ⟨rfl, BB⟩
          · have h7i : (7 : Int) < (m : Int) := by have : 7 < m := h7; omega
            have h0i : ¬ ((m : Int) = 0) := by omega
            clear h7
            go_wp2_with fail
            go_ret
            exact ⟨rfl, BB⟩
end Go.Proofs.YtpcdgljcpacpiaaGreatDoor

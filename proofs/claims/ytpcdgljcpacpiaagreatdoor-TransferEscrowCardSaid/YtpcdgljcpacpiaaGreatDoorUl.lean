/- The law TransferEscrow's walk: what is in escrow of a channel is just what went over it, less what came home, and was given back. -/
import Derived.Test.YtpcdgljcpacpiaaGreatDoorUk
import Derived.Test.YtpcdgljcpacpiaaGreatDoorPj
import Derived.Test.YtpcdgljcpacpiaaGreatDoorTh
set_option maxRecDepth 20000
namespace Go.Proofs.YtpcdgljcpacpiaaGreatDoor
open Go.ChangeShapes Go.WideShapes Go.ChangeAt Go.WideMaps Go.WideElems Go.RowKit
def U64L (w : World) (v : Value) (L : List Int) : Prop := ∃ p cap, v = .slice p L.length cap ∧ (0 < L.length → ∃ g off, p = some ⟨g, off, none⟩ ∧ ∀ i (hi : i < L.length), w.cell? ⟨g, off + i, none⟩ = some (.int .u64 L[i]))
set_option maxRecDepth 100000 in
theorem open_ru64 {H : Type} {enc : TypeId × Value → H} {W : World} {base : Nat} {sp : Nat → Bool} {hd : Bool} {v : Value} {d : DataW H} {p : List MemPlace} (hv : Value.okWide Tryz.prog W .any base 48 v) (h : DataW.Trod enc Tryz.prog W 0 sp hd 48 v d p) :
    ∃ L, U64L W v L ∧ L.length ≤ 9223372036854775807 := by
  obtain ⟨a, len, cap, rfl⟩ := okWide_slice Tryz.underlying48 hv
  obtain ⟨fuel, hf⟩ := h
  rcases open_ints Tryz.underlying48 Tryz.underlying29 (by kernel_rfl) hf with ⟨h0, _⟩ | ⟨a', len', cap', ss, hcs, _, hl, hm, hz, _, hcell, _⟩
  · simp [Value.cells] at h0
    obtain ⟨rfl, rfl, rfl⟩ := h0
    exact ⟨[], ⟨none, 0, rfl, fun h => by simp at h⟩, by decide⟩
  · simp [Value.cells] at hcs
    obtain ⟨rfl, rfl, rfl⟩ := hcs
    have hm' : cap ≤ 9223372036854775807 := hm
    have hss : len ≤ ss.length := by rw [hz]; split <;> omega
    refine ⟨ss.take len, ⟨some a', cap, by rw [List.length_take, Nat.min_eq_left hss], fun h0 => ?_⟩, by rw [List.length_take]; omega⟩
    rw [List.length_take, Nat.min_eq_left hss] at h0
    have h00 := hcell 0 (by omega)
    have hspot : a'.spot = none := by
      simp [Addr.add, World.cell?] at h00
      split at h00
      · split at h00
        · cases h00
        · rename_i hq; simpa using hq
      · cases h00
    obtain ⟨g, off, spot⟩ := a'
    simp at hspot
    subst hspot
    have eadd : ∀ j, (⟨g, off, none⟩ : Addr).add j = ⟨g, off + j, none⟩ := fun j => by unfold Addr.add; split <;> simp_all
    refine ⟨g, off, rfl, fun i hi => ?_⟩
    rw [List.length_take] at hi
    have h5 := hcell i (by omega)
    rw [eadd] at h5
    rw [h5, List.getElem_take, List.getD_eq_getElem?_getD, List.getElem?_eq_getElem (by omega)]
    rfl
attribute [local go_sem ↓] Go.wp_at_zero Go.wp_at_succ
theorem and3u (x : Int) : ∃ n : Nat, n ≤ 3 ∧ bits .and .u64 x 3 = (n : Int) := by
  have e2 : (BitVec.ofInt 64 3).toNat = 3 := by decide
  have h : (BitVec.ofInt 64 x &&& BitVec.ofInt 64 3).toNat ≤ 3 := by
    rw [BitVec.toNat_and, e2]
    exact Nat.and_le_right
  have e : bits .and .u64 x 3 = IntKind.u64.wrap (((BitVec.ofInt 64 x &&& BitVec.ofInt 64 3).toNat : Nat) : Int) := rfl
  refine ⟨(BitVec.ofInt 64 x &&& BitVec.ofInt 64 3).toNat, h, ?_⟩
  rw [e, IntKind.wrap_u64]
  omega
theorem Blk.far4 {w : World} {g g2 : Nat} {t : TypeId} {cs : Array Value} (h : Blk w g2 t cs) (hg : g2 ≠ g) (v0 v1 v2 v3 : Value) : Blk ((((w.setCell ⟨g, 0, none⟩ v0).setCell ⟨g, 1, none⟩ v1).setCell ⟨g, 2, none⟩ v2).setCell ⟨g, 3, none⟩ v3) g2 t cs :=
  (((h.far hg _).far hg _).far hg _).far hg _
/-- Entries do not lie in a box that holds a number. -/
theorem Ents.box4 {w : World} {v : Value} {E : List Ent} {b : Nat} {t : TypeId} {p0 p1 p2 p3 : Int} (h : Ents w v E) (hb : Blk w b t #[.int .u64 p0, .int .u64 p1, .int .u64 p2, .int .u64 p3]) (v0 v1 v2 v3 : Value) :
    Ents ((((w.setCell ⟨b, 0, none⟩ v0).setCell ⟨b, 1, none⟩ v1).setCell ⟨b, 2, none⟩ v2).setCell ⟨b, 3, none⟩ v3) v E := by
  rcases h with h | ⟨h0, g, off, cap, h1, h2, h3, h4⟩
  · exact .inl h
  · have hne : b ≠ g := by
      rintro rfl
      have d0 := (h4 0 (by omega)).1
      rw [hb.cell] at d0
      have hz : off + 0 * 2 < 4 := by
        have := (Array.getElem?_eq_some_iff.1 d0).1
        simpa using this
      have : off = 0 ∨ off = 1 ∨ off = 2 ∨ off = 3 := by omega
      rcases this with rfl | rfl | rfl | rfl <;> simp at d0
    exact .inr ⟨h0, g, off, cap, h1, h2, h3, (((h4.far hne _ _).far hne _ _).far hne _ _).far hne _ _⟩
theorem sadd_any (a n : Nat) (ha : a ≤ 100) (hn : n ≤ 100) (w : World) : Calls Tryz.prog 22 #[.agg #[.int .u64 (a : Int), .int .u64 0, .int .u64 0, .int .u64 0], .agg #[.int .u64 (n : Int), .int .u64 0, .int .u64 0, .int .u64 0]] w fun e w' =>
    e = .returned (.tuple #[.agg #[.int .u64 ((a + n : Nat) : Int), .int .u64 0, .int .u64 0, .int .u64 0], .bool true]) ∧ Below w.heap.size w w' := by
  have h := radd_any a n (W256.small (by omega)) (W256.small (by omega)) w
  have la := limb_small (n := a) (by omega)
  have ln := limb_small (n := n) (by omega)
  have ls := limb_small (n := a + n) (by omega)
  have e : wN (a + n) = a + n := if_pos (W256.small (by omega))
  rw [e, wOk_small (by omega), la.1, la.2.1, la.2.2.1, la.2.2.2, ln.1, ln.2.1, ln.2.2.1, ln.2.2.2, ls.1, ls.2.1, ls.2.2.1, ls.2.2.2] at h
  exact h
theorem ssub_yes (a n : Nat) (ha : a ≤ 100) (hn : n ≤ a) (w : World) : Calls Tryz.prog 23 #[.agg #[.int .u64 (a : Int), .int .u64 0, .int .u64 0, .int .u64 0], .agg #[.int .u64 (n : Int), .int .u64 0, .int .u64 0, .int .u64 0]] w fun e w' =>
    e = .returned (.tuple #[.agg #[.int .u64 ((a - n : Nat) : Int), .int .u64 0, .int .u64 0, .int .u64 0], .bool true]) ∧ Below w.heap.size w w' := by
  have h := rsub_yes a n (W256.small (by omega)) (W256.small (by omega)) hn w
  have la := limb_small (n := a) (by omega)
  have ln := limb_small (n := n) (by omega)
  have ls := limb_small (n := a - n) (by omega)
  rw [la.1, la.2.1, la.2.2.1, la.2.2.2, ln.1, ln.2.1, ln.2.2.1, ln.2.2.2, ls.1, ls.2.1, ls.2.2.1, ls.2.2.2] at h
  exact h
theorem ssub_no (a n : Nat) (ha : n ≤ 100) (hn : a < n) (w : World) : Calls Tryz.prog 23 #[.agg #[.int .u64 (a : Int), .int .u64 0, .int .u64 0, .int .u64 0], .agg #[.int .u64 (n : Int), .int .u64 0, .int .u64 0, .int .u64 0]] w fun e w' =>
    e = .returned (.tuple #[.agg #[.int .u64 0, .int .u64 0, .int .u64 0, .int .u64 0], .bool false]) ∧ Below w.heap.size w w' := by
  have h := rsub_no a n (W256.small (by omega)) (W256.small (by omega)) hn w
  have la := limb_small (n := a) (by omega)
  have ln := limb_small (n := n) (by omega)
  rw [la.1, la.2.1, la.2.2.1, la.2.2.2, ln.1, ln.2.1, ln.2.2.1, ln.2.2.2] at h
  exact h
theorem eqWne (a : Int) (h : ¬ a = 0) (w : World) : (Op.equalIn 10000 31 (.agg #[.int .u64 a, .int .u64 0, .int .u64 0, .int .u64 0]) (.agg #[.int .u64 0, .int .u64 0, .int .u64 0, .int .u64 0])).run Tryz.prog w = .ok false w := by
  have u3 := Tryz.underlying29
  have a3 := Tryz.isAgg29
  have z3 := Tryz.sizeOf29
  have hb : (a == 0) = false := by simp [h]
  rw [show (10000 : Nat) = 9999 + 1 from rfl, Op.equalIn]
  simp only [Sem.run_bind, run_underlying Tryz.underlying31, Result.andThen_ok]
  simp only [Std.Legacy.Range.forIn_eq_forIn_range', Std.Legacy.Range.size, Nat.sub_zero, Nat.add_sub_cancel, Nat.div_one, List.range'_succ, List.range'_zero, List.forIn_cons, List.forIn_nil]
  go_simp
theorem eqWz17 {n : Nat} (h : n = 0) (w : World) : (Op.equalIn 10000 31 (.agg #[.int .u64 (n : Int), .int .u64 0, .int .u64 0, .int .u64 0]) (.agg #[.int .u64 0, .int .u64 0, .int .u64 0, .int .u64 0])).run Tryz.prog w = .ok true w := by
  subst h
  exact eqW17 0 0 0 0 w
theorem lz17 : limb 0 0 = 0 ∧ limb 0 1 = 0 ∧ limb 0 2 = 0 ∧ limb 0 3 = 0 := by decide
set_option maxHeartbeats 16000000 in
set_option maxRecDepth 100000 in
theorem l17escrow_any (v0 v1 : Value) (L M : List Int) (w : World) (h0 : Hid (U64L w v0 L)) (h1 : Hid (Ints w v1 M)) (hL : L.length ≤ 9223372036854775807) (hM : M.length ≤ 9223372036854775807) :
    Calls Tryz.prog 4 #[v0, v1] w fun e w' => e = .returned (.bool true) ∧ Below w.heap.size w w' := by
  obtain ⟨p0, cap0, rfl, hf0⟩ := h0.out
  obtain ⟨p1, cap1, rfl, hf1⟩ := h1.out
  have Hf0 := Lib.hid hf0
  have Hf1 := Lib.hid hf1
  clear hf0 hf1 h0 h1
  have HO := fun v w hv => of_any v S17 w hv (by have := S17_len; omega)
  rw [st_of] at HO
  replace HO := Lib.hid HO
  have HZ := fun w => r13check_any 0 0 0 ⟨#[]⟩ ⟨#[]⟩ ⟨#[]⟩ ⟨#[]⟩ ⟨#[]⟩ 0 w (by decide) (by decide) (by decide) (by decide) (by decide) (W256.small (by decide))
  rw [show okP 0 0 0 (bysN ⟨#[]⟩) (bysN ⟨#[]⟩) (bysN ⟨#[]⟩) (bysN ⟨#[]⟩) (bysN ⟨#[]⟩) 0 = false by decide +kernel, show chkN false = 1 from rfl, lz17.1, lz17.2.1, lz17.2.2.1, lz17.2.2.2] at HZ
  replace HZ := Lib.hid HZ
  go_enter Tryz.func4, Tryz.ntmps4
  go_wp2_with fail
  refine (awake17_any _).mono ?_
  rintro e w1 ⟨rfl, BB⟩
  go_wp2_with fail
  refine (start17_any _).mono ?_
  rintro e w2 ⟨vs, rfl, hst, hb⟩
  replace BB := BW_on BB hb
  have e_s := Lib.hid hst
  clear hst hb
  go_wp2_with fail
  refine (HO.out _ _ e_s.out).mono ?_
  rintro e w3 ⟨vd, rfl, hd, hb⟩
  replace BB := BW_on BB hb
  obtain ⟨q0, c0, rfl⟩ := hd.len
  have e_d := Lib.hid hd
  have hwd := BB.size
  clear hd hb e_s HO
  replace e_d := Lib.hid (e_d.out.on (BW_alloc (BW_refl _) (.cells #[.slice q0 S17.length c0] 27)))
  replace BB := BW_on BB (BW_alloc (BW_refl _) (.cells #[.slice q0 S17.length c0] 27))
  have k_d := blk1 w3 27 #[.slice q0 S17.length c0]
  have k_w := blk2 w3 (.cells #[.slice q0 S17.length c0] 27) 31 #[.int .u64 0, .int .u64 0, .int .u64 0, .int .u64 0]
  replace k_d := k_d.on (BW_alloc (BW_refl _) (.cells #[.int .u64 0, .int .u64 0, .int .u64 0, .int .u64 0] 31))
  replace e_d := Lib.hid (e_d.out.on (BW_alloc (BW_refl _) (.cells #[.int .u64 0, .int .u64 0, .int .u64 0, .int .u64 0] 31)))
  replace BB := BW_on BB (BW_alloc (BW_refl _) (.cells #[.int .u64 0, .int .u64 0, .int .u64 0, .int .u64 0] 31))
  have hl0 : S17.length ≤ 4 := S17_len
  have hE0 : Hid (EsI S17 0) := es_start
  go_wp2_with fail
  generalize S17 = E0 at *
  go_loopw [8] (fun i wr => ∃ (k a : Nat) (q : Option Addr) (c : Nat) (E : List Ent), k ≤ L.length ∧ k ≤ 20 ∧ i = .int .i64 (k : Int) ∧ Hid (EsI E a) ∧ E.length ≤ 4 + 4 * k ∧ Hid (Ents wr (.slice q E.length c) E) ∧ Blk wr w3.heap.size 27 #[.slice q E.length c] ∧ Blk wr (w3.heap.size + 1) 31 #[.int .u64 (a : Int), .int .u64 0, .int .u64 0, .int .u64 0] ∧ Below w.heap.size w wr) (fun i _ => (21 - intOf i).toNat)
  case atStart => exact ⟨0, 0, q0, c0, E0, by omega, by omega, rfl, hE0, by omega, e_d, k_d, k_w, BB⟩
  case round =>
    clear k_d k_w BB e_d hE0 hl0
    obtain ⟨k, a, q, c, E, hk, hk20, rfl, hE, hl, e_d, k_d, k_w, BB⟩ := hrel
    by_cases hlt : k < L.length ∧ k < 20
    · obtain ⟨hlt1, hlt2⟩ := hlt
      obtain ⟨g, off, rfl, hc⟩ := Hf0.out (by omega)
      have o0 := BW_cell BB (hc k hlt1)
      have hk1 : (k : Int) < (L.length : Int) := by omega
      have hk2 : (k : Int) < 20 := by omega
      have Hk3 : Hid (wrap64 ((k : Int) + 1) = (k : Int) + 1) := Lib.hid (by unfold wrap64; omega)
      clear hc
      generalize L[k] = y at *
      obtain ⟨n, hn, en⟩ := and3u y
      have LS := limb_small (n := n) (by omega)
      have hwr : w3.heap.size + 1 < wr.heap.size := k_w.lt
      go_upto_region 8 with (fail)
      change Code.wp _ _ _ _ (wr.alloc (.cells #[.int .u64 (n : Int), .int .u64 0, .int .u64 0, .int .u64 0] 31))
      replace k_d := k_d.on (BW_alloc (BW_refl _) (.cells #[.int .u64 (n : Int), .int .u64 0, .int .u64 0, .int .u64 0] 31))
      replace k_w := k_w.on (BW_alloc (BW_refl _) (.cells #[.int .u64 (n : Int), .int .u64 0, .int .u64 0, .int .u64 0] 31))
      replace e_d := Lib.hid (e_d.out.on (BW_alloc (BW_refl _) (.cells #[.int .u64 (n : Int), .int .u64 0, .int .u64 0, .int .u64 0] 31)))
      replace BB := BW_on BB (BW_alloc (BW_refl _) (.cells #[.int .u64 (n : Int), .int .u64 0, .int .u64 0, .int .u64 0] 31))
      have k_n := blk1 wr 31 #[.int .u64 (n : Int), .int .u64 0, .int .u64 0, .int .u64 0]
      clear o0 en
      have c_n := fun i => k_n.cell i
      go_upto_region 9 with (fail)
      change Code.wp _ _ _ _ ((wr.alloc (.cells #[.int .u64 (n : Int), .int .u64 0, .int .u64 0, .int .u64 0] 31)).alloc (.cells #[.int .i64 (1 + (k : Int)), .string t_c1, .string t_c2, .string t_x, .int .u64 (n : Int), .int .u64 0, .int .u64 0, .int .u64 0, .string t_ann, .string t_bob, .int .i64 9, .int .i64 0] 35))
      clear c_n
      replace k_d := k_d.on (BW_alloc (BW_refl _) (.cells #[.int .i64 (1 + (k : Int)), .string t_c1, .string t_c2, .string t_x, .int .u64 (n : Int), .int .u64 0, .int .u64 0, .int .u64 0, .string t_ann, .string t_bob, .int .i64 9, .int .i64 0] 35))
      replace k_w := k_w.on (BW_alloc (BW_refl _) (.cells #[.int .i64 (1 + (k : Int)), .string t_c1, .string t_c2, .string t_x, .int .u64 (n : Int), .int .u64 0, .int .u64 0, .int .u64 0, .string t_ann, .string t_bob, .int .i64 9, .int .i64 0] 35))
      replace k_n := k_n.on (BW_alloc (BW_refl _) (.cells #[.int .i64 (1 + (k : Int)), .string t_c1, .string t_c2, .string t_x, .int .u64 (n : Int), .int .u64 0, .int .u64 0, .int .u64 0, .string t_ann, .string t_bob, .int .i64 9, .int .i64 0] 35))
      replace e_d := Lib.hid (e_d.out.on (BW_alloc (BW_refl _) (.cells #[.int .i64 (1 + (k : Int)), .string t_c1, .string t_c2, .string t_x, .int .u64 (n : Int), .int .u64 0, .int .u64 0, .int .u64 0, .string t_ann, .string t_bob, .int .i64 9, .int .i64 0] 35)))
      replace BB := BW_on BB (BW_alloc (BW_refl _) (.cells #[.int .i64 (1 + (k : Int)), .string t_c1, .string t_c2, .string t_x, .int .u64 (n : Int), .int .u64 0, .int .u64 0, .int .u64 0, .string t_ann, .string t_bob, .int .i64 9, .int .i64 0] 35))
      have k_p := blk2 wr (.cells #[.int .u64 (n : Int), .int .u64 0, .int .u64 0, .int .u64 0] 31) 35 #[.int .i64 (1 + (k : Int)), .string t_c1, .string t_c2, .string t_x, .int .u64 (n : Int), .int .u64 0, .int .u64 0, .int .u64 0, .string t_ann, .string t_bob, .int .i64 9, .int .i64 0]
      rcases hR : sendL E (1 + (k : Int)) 9 0 t_c1 t_c2 t_x t_ann t_bob n with ⟨x, A⟩
      have HS := fun v w hv => send_any v E (1 + (k : Int)) 9 0 t_c1 t_c2 t_x t_ann t_bob n w hv hE.out.srt (by omega) (by decide) (by decide) (by decide) (by decide) (by decide) (W256.small (by omega))
      rw [LS.1, LS.2.1, LS.2.2.1, LS.2.2.2, hR] at HS
      replace HS := Lib.hid HS
      have hinv := (send_inv hE.out.srt (1 + (k : Int)) 9 0 t_c1 t_c2 t_x t_ann t_bob n).2
      rw [hR] at hinv
      have hlA : A.length ≤ E.length + 2 := hinv
      have hsn : Hid (x = 0 → EsI A (a + n) ∧ refundL A (1 + (k : Int)) 9 0 t_c1 t_c2 t_x t_ann t_bob n = (0, E)) := Lib.hid (fun hx => by subst hx; exact es_send hE.out hn hR)
      have ha9 := hE.out.le
      clear hinv hR
      have c_d := fun i => k_d.cell i
      have c_p := fun i => k_p.cell i
      go_wp2_with fail
      refine (HS.out _ _ e_d.out).mono ?_
      rintro e w4 ⟨qa, ca, rfl, hen, hb⟩
      clear c_d c_p
      replace k_d := k_d.on hb
      replace k_w := k_w.on hb
      replace k_n := k_n.on hb
      replace k_p := k_p.on hb
      replace e_d := Lib.hid (e_d.out.on hb)
      replace BB := BW_on BB hb
      have hxx : wr.heap.size + 1 < w4.heap.size := k_p.lt
      replace k_d := k_d.on (BW_alloc (BW_refl _) (.cells #[.slice qa A.length ca] 27))
      replace k_w := k_w.on (BW_alloc (BW_refl _) (.cells #[.slice qa A.length ca] 27))
      replace k_n := k_n.on (BW_alloc (BW_refl _) (.cells #[.slice qa A.length ca] 27))
      replace k_p := k_p.on (BW_alloc (BW_refl _) (.cells #[.slice qa A.length ca] 27))
      replace e_d := Lib.hid (e_d.out.on (BW_alloc (BW_refl _) (.cells #[.slice qa A.length ca] 27)))
      replace BB := BW_on BB (BW_alloc (BW_refl _) (.cells #[.slice qa A.length ca] 27))
      have k_x := blk1 w4 27 #[.slice qa A.length ca]
      have e_x := Lib.hid (hen.on (BW_alloc (BW_refl _) (.cells #[.slice qa A.length ca] 27)))
      clear hen hb HS
      have c_x := fun i => k_x.cell i
      go_upto_if 54 with (fail)
      change Code.wp _ _ _ _ (w4.alloc (.cells #[.slice qa A.length ca] 27))
      generalize hV : w4.alloc (.cells #[.slice qa A.length ca] 27) = V at *
      clear hV
      clear c_x
      go_cut [12] (fun s12 wx => ∃ (E1 : List Ent) (a1 : Nat) (q1 : Option Addr) (c1 : Nat), s12 = .int .i64 x ∧ Hid (EsI E1 a1) ∧ E1.length ≤ 6 + 4 * k ∧ Hid (x = 0 → n ≤ a1 ∧ ∃ E2, E2.length ≤ 4 + 4 * k ∧ EsI E2 (a1 - n) ∧ refundL E1 (1 + (k : Int)) 9 0 t_c1 t_c2 t_x t_ann t_bob n = (0, E2)) ∧ Hid (Ents wx (.slice q1 E1.length c1) E1) ∧ Blk wx w3.heap.size 27 #[.slice q1 E1.length c1] ∧ Blk wx (w3.heap.size + 1) 31 #[.int .u64 (a1 : Int), .int .u64 0, .int .u64 0, .int .u64 0] ∧ Blk wx wr.heap.size 31 #[.int .u64 (n : Int), .int .u64 0, .int .u64 0, .int .u64 0] ∧ Blk wx (wr.heap.size + 1) 35 #[.int .i64 (1 + (k : Int)), .string t_c1, .string t_c2, .string t_x, .int .u64 (n : Int), .int .u64 0, .int .u64 0, .int .u64 0, .string t_ann, .string t_bob, .int .i64 9, .int .i64 0] ∧ Below w.heap.size w wx)
      case first =>
        by_cases hx : x = 0
        · obtain ⟨hs1, hs2⟩ := hsn.out hx
          have xe := Lib.hid (e_x.out.box k_d (.slice qa A.length ca))
          have xd := k_d.set_ 0 (.slice qa A.length ca)
          have xb := BW_off (p := ⟨w3.heap.size, 0, none⟩) hwd (.slice qa A.length ca) BB
          have xw := k_w.far (p := ⟨w3.heap.size, 0, none⟩) (by show (w3.heap.size + 1) ≠ w3.heap.size; omega) (.slice qa A.length ca)
          have xn := k_n.far (p := ⟨w3.heap.size, 0, none⟩) (by show wr.heap.size ≠ w3.heap.size; omega) (.slice qa A.length ca)
          have xp := k_p.far (p := ⟨w3.heap.size, 0, none⟩) (by show (wr.heap.size + 1) ≠ w3.heap.size; omega) (.slice qa A.length ca)
          have c_x := fun i => k_x.cell i
          have c_d := fun i => k_d.cell i
          have f_d := fun i => k_d.free i
          go_upto_region 12 with (fail)
          change Code.wp _ _ _ _ (V.setCell ⟨w3.heap.size, 0, none⟩ (.slice qa A.length ca))
          clear c_x c_d f_d e_x e_d k_d k_w k_n k_p k_x BB
          generalize V.setCell ⟨w3.heap.size, 0, none⟩ (.slice qa A.length ca) = V2 at *
          have e_d := xe
          have k_d := xd
          have BB := xb
          have k_w := xw
          have k_n := xn
          have k_p := xp
          clear xe xd xb xw xn xp
          have c_w := fun i => k_w.cell i
          have c_n := fun i => k_n.cell i
          go_wp2_with fail
          refine (sadd_any a n (by omega) (by omega) _).mono ?_
          rintro e w5 ⟨rfl, hb⟩
          clear c_w c_n
          replace k_d := k_d.on hb
          replace k_w := k_w.on hb
          replace k_n := k_n.on hb
          replace k_p := k_p.on hb
          replace e_d := Lib.hid (e_d.out.on hb)
          replace BB := BW_on BB hb
          clear hb
          have ye := Lib.hid (e_d.out.box4 k_w (.int .u64 ((a + n : Nat) : Int)) (.int .u64 0) (.int .u64 0) (.int .u64 0))
          have yd := k_d.far4 (g := (w3.heap.size + 1)) (by show w3.heap.size ≠ (w3.heap.size + 1); omega) (.int .u64 ((a + n : Nat) : Int)) (.int .u64 0) (.int .u64 0) (.int .u64 0)
          have yw := k_w.store4 (.int .u64 ((a + n : Nat) : Int)) (.int .u64 0) (.int .u64 0) (.int .u64 0)
          have yb := below_store4 BB (g := (w3.heap.size + 1)) (by omega) (.int .u64 ((a + n : Nat) : Int)) (.int .u64 0) (.int .u64 0) (.int .u64 0)
          have yn := k_n.far4 (g := (w3.heap.size + 1)) (by show wr.heap.size ≠ (w3.heap.size + 1); omega) (.int .u64 ((a + n : Nat) : Int)) (.int .u64 0) (.int .u64 0) (.int .u64 0)
          have yp := k_p.far4 (g := (w3.heap.size + 1)) (by show (wr.heap.size + 1) ≠ (w3.heap.size + 1); omega) (.int .u64 ((a + n : Nat) : Int)) (.int .u64 0) (.int .u64 0) (.int .u64 0)
          have c_w := fun i => k_w.cell i
          have f_w := fun i => k_w.free i
          clear e_d k_d k_n k_p BB
          go_wp2_with fail
          go_meet
          exact ⟨A, a + n, qa, ca, by first | rfl | (rw [hx]), hs1, by omega, Lib.hid (fun _ => ⟨by omega, E, hl, by rw [Nat.add_sub_cancel]; exact hE.out, hs2⟩), ye, yd, yw, yn, yp, yb⟩
        · go_wp2_with fail
          go_meet
          exact ⟨E, a, q, c, rfl, hE, by omega, Lib.hid (fun h => absurd h hx), e_d, k_d, k_w, k_n, k_p, BB⟩
      case rest =>
        clear e_d e_x k_d k_w k_n k_p k_x BB hE hsn hlA
        obtain ⟨E1, a1, q1, c1, rfl, hE, hl1, hrf, e_d, k_d, k_w, k_n, k_p, BB⟩ := hcut
        have ha1 := hE.out.le
        clear ha9
        by_cases hbk : k < M.length
        · obtain ⟨g2, off2, rfl, hc2⟩ := Hf1.out (by omega)
          have cb := BW_cell BB (hc2 k hbk)
          have hb3 : (k : Int) < (M.length : Int) := by omega
          have HCB : Hid (∀ wx, Below w.heap.size w wx → wx.cell? ⟨g2, off2 + k, none⟩ = some (.int .i64 M[k])) := Lib.hid (fun wx hb => BW_cell hb (hc2 k hbk))
          clear hc2
          generalize M[k] = b at *
          clear hbk
          by_cases e1 : bits .and .i64 b 3 = 1
          · have e2 : ¬ bits .and .i64 b 3 = 2 := by rw [e1]; decide
            by_cases hx : x = 0
            · obtain ⟨hna, E2, hl2, hE2, hR2⟩ := hrf.out hx
              have HF := fun v w hv => refund_any v E1 (1 + (k : Int)) 9 0 t_c1 t_c2 t_x t_ann t_bob n w hv hE.out.srt (by omega) (by decide) (by decide) (by decide) (by decide) (by decide) (W256.small (by omega))
              rw [LS.1, LS.2.1, LS.2.2.1, LS.2.2.2, hR2] at HF
              replace HF := Lib.hid HF
              clear hR2 hrf
              have HE2' : Hid (EsI E2 (a1 - n)) := hE2
              clear hE2
              have c_d := fun i => k_d.cell i
              have c_p := fun i => k_p.cell i
              go_wp2_with fail
              refine (HF.out _ _ e_d.out).mono ?_
              rintro e w6 ⟨q2, c2, rfl, hen, hb⟩
              clear c_d c_p
              replace k_d := k_d.on hb
              replace k_w := k_w.on hb
              replace k_n := k_n.on hb
              replace k_p := k_p.on hb
              replace e_d := Lib.hid (e_d.out.on hb)
              replace BB := BW_on BB hb
              clear cb
              have cb := HCB.out _ BB
              replace k_d := k_d.on (BW_alloc (BW_refl _) (.cells #[.slice q2 E2.length c2] 27))
              replace k_w := k_w.on (BW_alloc (BW_refl _) (.cells #[.slice q2 E2.length c2] 27))
              replace k_n := k_n.on (BW_alloc (BW_refl _) (.cells #[.slice q2 E2.length c2] 27))
              replace k_p := k_p.on (BW_alloc (BW_refl _) (.cells #[.slice q2 E2.length c2] 27))
              replace e_d := Lib.hid (e_d.out.on (BW_alloc (BW_refl _) (.cells #[.slice q2 E2.length c2] 27)))
              replace BB := BW_on BB (BW_alloc (BW_refl _) (.cells #[.slice q2 E2.length c2] 27))
              have k_y := blk1 w6 27 #[.slice q2 E2.length c2]
              have e_y := Lib.hid (hen.on (BW_alloc (BW_refl _) (.cells #[.slice q2 E2.length c2] 27)))
              clear hen hb HF
              have hwp2 : wr.heap.size + 1 < (w6.alloc (.cells #[.slice q2 E2.length c2] 27)).heap.size := k_p.lt
              have c_y := fun i => k_y.cell i
              go_upto_region 17 with (fail)
              change Code.wp _ _ _ _ (w6.alloc (.cells #[.slice q2 E2.length c2] 27))
              generalize hV6 : w6.alloc (.cells #[.slice q2 E2.length c2] 27) = V6 at *
              clear hV6 c_y
              have xe := Lib.hid (e_y.out.box k_d (.slice q2 E2.length c2))
              have xd := k_d.set_ 0 (.slice q2 E2.length c2)
              have xb := BW_off (p := ⟨w3.heap.size, 0, none⟩) hwd (.slice q2 E2.length c2) BB
              have xw := k_w.far (p := ⟨w3.heap.size, 0, none⟩) (by show (w3.heap.size + 1) ≠ w3.heap.size; omega) (.slice q2 E2.length c2)
              have xn := k_n.far (p := ⟨w3.heap.size, 0, none⟩) (by show wr.heap.size ≠ w3.heap.size; omega) (.slice q2 E2.length c2)
              have c_y := fun i => k_y.cell i
              have c_d := fun i => k_d.cell i
              have f_d := fun i => k_d.free i
              go_upto_region 18 with (fail)
              change Code.wp _ _ _ _ (V6.setCell ⟨w3.heap.size, 0, none⟩ (.slice q2 E2.length c2))
              clear c_y c_d f_d e_y e_d k_d k_w k_n k_p k_y BB cb
              generalize V6.setCell ⟨w3.heap.size, 0, none⟩ (.slice q2 E2.length c2) = V7 at *
              have e_d := xe
              have k_d := xd
              have BB := xb
              have k_w := xw
              have k_n := xn
              clear xe xd xb xw xn
              have c_w := fun i => k_w.cell i
              have c_n := fun i => k_n.cell i
              go_wp2_with fail
              refine (ssub_yes a1 n (by omega) hna _).mono ?_
              rintro e wq7 ⟨rfl, hb⟩
              clear c_w c_n
              replace k_d := k_d.on hb
              replace k_w := k_w.on hb
              replace k_n := k_n.on hb
              replace e_d := Lib.hid (e_d.out.on hb)
              replace BB := BW_on BB hb
              clear hb
              have ye := Lib.hid (e_d.out.box4 k_w (.int .u64 ((a1 - n : Nat) : Int)) (.int .u64 0) (.int .u64 0) (.int .u64 0))
              have yd := k_d.far4 (g := (w3.heap.size + 1)) (by show w3.heap.size ≠ (w3.heap.size + 1); omega) (.int .u64 ((a1 - n : Nat) : Int)) (.int .u64 0) (.int .u64 0) (.int .u64 0)
              have yw := k_w.store4 (.int .u64 ((a1 - n : Nat) : Int)) (.int .u64 0) (.int .u64 0) (.int .u64 0)
              have yb := below_store4 BB (g := (w3.heap.size + 1)) (by omega) (.int .u64 ((a1 - n : Nat) : Int)) (.int .u64 0) (.int .u64 0) (.int .u64 0)
              have c_w := fun i => k_w.cell i
              have f_w := fun i => k_w.free i
              clear e_d k_d k_n BB
              go_upto_region 19 with (fail)
              change Code.wp _ _ _ _ ((((wq7.setCell ⟨(w3.heap.size + 1), 0, none⟩ (.int .u64 ((a1 - n : Nat) : Int))).setCell ⟨(w3.heap.size + 1), 1, none⟩ (.int .u64 0)).setCell ⟨(w3.heap.size + 1), 2, none⟩ (.int .u64 0)).setCell ⟨(w3.heap.size + 1), 3, none⟩ (.int .u64 0))
              clear c_w f_w k_w
              generalize (((wq7.setCell ⟨(w3.heap.size + 1), 0, none⟩ (.int .u64 ((a1 - n : Nat) : Int))).setCell ⟨(w3.heap.size + 1), 1, none⟩ (.int .u64 0)).setCell ⟨(w3.heap.size + 1), 2, none⟩ (.int .u64 0)).setCell ⟨(w3.heap.size + 1), 3, none⟩ (.int .u64 0) = V8 at *
              have e_d := ye
              have k_d := yd
              have k_w := yw
              have BB := yb
              clear ye yd yw yb
              have cb := HCB.out _ BB
              go_upto_region 30 with (fail)
              change Code.wp _ _ _ _ (V8.alloc (.cells #[.int .u64 9, .int .u64 0, .int .u64 0, .int .u64 0] 31))
              replace k_d := k_d.on (BW_alloc (BW_refl _) (.cells #[.int .u64 9, .int .u64 0, .int .u64 0, .int .u64 0] 31))
              replace k_w := k_w.on (BW_alloc (BW_refl _) (.cells #[.int .u64 9, .int .u64 0, .int .u64 0, .int .u64 0] 31))
              replace e_d := Lib.hid (e_d.out.on (BW_alloc (BW_refl _) (.cells #[.int .u64 9, .int .u64 0, .int .u64 0, .int .u64 0] 31)))
              replace BB := BW_on BB (BW_alloc (BW_refl _) (.cells #[.int .u64 9, .int .u64 0, .int .u64 0, .int .u64 0] 31))
              have k_z := blk1 V8 31 #[.int .u64 9, .int .u64 0, .int .u64 0, .int .u64 0]
              have B1 := fun v w hv => r11bal_any v E2 t_esc1 t_x w hv (by omega) (by decide) (by decide)
              rw [HE2'.out.esc, wv_small (n := (a1 - n)) (by have := HE2'.out.le; omega)] at B1
              replace B1 := Lib.hid B1
              have B2 := fun v w hv => r11sup_any v E2 t_x w hv (by omega) (by decide)
              rw [HE2'.out.tot, show wv 9 = .agg #[.int .u64 9, .int .u64 0, .int .u64 0, .int .u64 0] from wv_small (n := 9) (by decide)] at B2
              replace B2 := Lib.hid B2
              have HE1 := Lib.hid (fun w => eqW17 (((a1 - n) : Nat) : Int) 0 0 0 w)
              have HE2 := Lib.hid (fun w => eqW17 9 0 0 0 w)
              generalize hVZ : V8.alloc (.cells #[.int .u64 9, .int .u64 0, .int .u64 0, .int .u64 0] 31) = VZ at *
              clear hVZ
              refine wp_region_held_drew (S := BxS VZ [(w3.heap.size, 27, #[.slice q2 E2.length c2]), ((w3.heap.size + 1), 31, #[.int .u64 (((a1 - n) : Nat) : Int), .int .u64 0, .int .u64 0, .int .u64 0]), (V8.heap.size, 31, #[.int .u64 9, .int .u64 0, .int .u64 0, .int .u64 0])]) (by kernel_rfl) (((((BxS.nil (BW_refl VZ)).cons k_z).cons k_w).cons k_d)).drew (fun hH0 => ?_)
              refine wpAnyH_take (i := 0) (v := .agg #[.slice q2 E2.length c2]) rfl (by kernel_rfl) (by kernel_rfl) (by kernel_rfl) (fun _ _ _ h => h) (yk_load (by kernel_rfl) _ _ rfl (.pointer (some ⟨w3.heap.size, 0, none⟩)) (by kernel_rfl) _ (fun w' hw' => by have c0 := (hw'.bl _ (.head _)).cell 0; go_simp)) hH0 ?_
              refine wpAnyH_take (i := 3) (v := .agg #[.int .u64 (((a1 - n) : Nat) : Int), .int .u64 0, .int .u64 0, .int .u64 0]) rfl (by kernel_rfl) (by kernel_rfl) (by kernel_rfl) (fun _ _ _ h => h) (yk_load (by kernel_rfl) _ _ rfl (.pointer (some ⟨(w3.heap.size + 1), 0, none⟩)) (by kernel_rfl) _ (fun w' hw' => by have c0 := (hw'.bl _ (.tail _ (.head _))).cell 0; have c1 := (hw'.bl _ (.tail _ (.head _))).cell 1; have c2 := (hw'.bl _ (.tail _ (.head _))).cell 2; have c3 := (hw'.bl _ (.tail _ (.head _))).cell 3; go_simp)) hH0 ?_
              refine wpAnyH_ready (rs := [1]) (by kernel_rfl) (by simp) ?_
              refine AllReadyH.cons rfl (fun K hK => ?_) AllReadyH.nil
              go_simp
              go_at_call 17
              refine (all_any _ E2 _ (e_d.out.on hH0.hb) (by omega)).mono ?_
              rintro e w1 ⟨v1, rfl, hown1, hd1⟩
              have e1 := own_ents hown1
              go_wp2_with fail
              refine hK.out _ _ (hH0.on hd1) (fun hH1 => ?_)
              clear hK K
              refine wpAnyH_ready (rs := [2]) (by kernel_rfl) (by simp) ?_
              refine AllReadyH.cons rfl (fun K hK => ?_) AllReadyH.nil
              go_simp
              go_at_call 24
              refine (B1.out _ _ e1).mono ?_
              rintro e w2 ⟨rfl, hd2⟩
              go_wp2_with fail
              refine hK.out _ _ (hH1.on hd2) (fun hH2 => ?_)
              clear hK K
              refine wpAnyH_take (i := 4) (v := .bool false) rfl (by kernel_rfl) (by kernel_rfl) (by kernel_rfl) (fun _ _ _ h => h) (yk_bin (by kernel_rfl) _ _ _ _ _ rfl (.agg #[.int .u64 (((a1 - n) : Nat) : Int), .int .u64 0, .int .u64 0, .int .u64 0]) (.agg #[.int .u64 (((a1 - n) : Nat) : Int), .int .u64 0, .int .u64 0, .int .u64 0]) (by kernel_rfl) (by kernel_rfl) _ (fun w' hw' => by have h0 := HE1.out w'; go_simp)) hH2 ?_
              refine wpAnyH_take (i := 5) (v := .bool false) rfl (by kernel_rfl) (by kernel_rfl) (by kernel_rfl) (fun _ _ _ h => h) (yk_move (by kernel_rfl) _ rfl _ (by kernel_rfl)) hH2 ?_
              refine wpAnyH_take (i := 6) (v := .agg #[.slice q2 E2.length c2]) rfl (by kernel_rfl) (by kernel_rfl) (by kernel_rfl) (fun _ _ _ h => h) (yk_load (by kernel_rfl) _ _ rfl (.pointer (some ⟨w3.heap.size, 0, none⟩)) (by kernel_rfl) _ (fun w' hw' => by have c0 := (hw'.bl _ (.head _)).cell 0; go_simp)) hH2 ?_
              refine wpAnyH_take (i := 9) (v := .agg #[.int .u64 9, .int .u64 0, .int .u64 0, .int .u64 0]) rfl (by kernel_rfl) (by kernel_rfl) (by kernel_rfl) (fun _ _ _ h => h) (yk_load (by kernel_rfl) _ _ rfl (.pointer (some ⟨V8.heap.size, 0, none⟩)) (by kernel_rfl) _ (fun w' hw' => by have c0 := (hw'.bl _ (.tail _ (.tail _ (.head _)))).cell 0; have c1 := (hw'.bl _ (.tail _ (.tail _ (.head _)))).cell 1; have c2 := (hw'.bl _ (.tail _ (.tail _ (.head _)))).cell 2; have c3 := (hw'.bl _ (.tail _ (.tail _ (.head _)))).cell 3; go_simp)) hH2 ?_
              refine wpAnyH_ready (rs := [7]) (by kernel_rfl) (by simp) ?_
              refine AllReadyH.cons rfl (fun K hK => ?_) AllReadyH.nil
              go_simp
              go_at_call 17
              refine (all_any _ E2 _ (e_d.out.on hH2.hb) (by omega)).mono ?_
              rintro e w7 ⟨v7, rfl, hown7, hd7⟩
              have e7 := own_ents hown7
              go_wp2_with fail
              refine hK.out _ _ (hH2.on hd7) (fun hH3 => ?_)
              clear hK K
              refine wpAnyH_ready (rs := [8]) (by kernel_rfl) (by simp) ?_
              refine AllReadyH.cons rfl (fun K hK => ?_) AllReadyH.nil
              go_simp
              go_at_call 25
              refine (B2.out _ _ e7).mono ?_
              rintro e w8 ⟨rfl, hd8⟩
              go_wp2_with fail
              refine hK.out _ _ (hH3.on hd8) (fun hH4 => ?_)
              clear hK K
              refine wpAnyH_take (i := 10) (v := .bool false) rfl (by kernel_rfl) (by kernel_rfl) (by kernel_rfl) (fun _ _ _ h => h) (yk_bin (by kernel_rfl) _ _ _ _ _ rfl (.agg #[.int .u64 9, .int .u64 0, .int .u64 0, .int .u64 0]) (.agg #[.int .u64 9, .int .u64 0, .int .u64 0, .int .u64 0]) (by kernel_rfl) (by kernel_rfl) _ (fun w' hw' => by have h0 := HE2.out w'; go_simp)) hH4 ?_
              refine wpAnyH_take (i := 11) (v := .bool false) rfl (by kernel_rfl) (by kernel_rfl) (by kernel_rfl) (fun _ _ _ h => h) (yk_pick (by kernel_rfl) _ _ _ rfl false (by kernel_rfl) _ (by kernel_rfl)) hH4 ?_
              refine wpAnyH_done (by kernel_rfl) ?_ _
              have hbz := hH4.hb
              replace k_d := k_d.on hbz
              replace k_w := k_w.on hbz
              replace e_d := Lib.hid (e_d.out.on hbz)
              replace BB := BW_on BB hbz
              clear hH0 hH1 hH2 hH3 hH4 hbz hd1 hd2 hd7 hd8 hown1 hown7 e1 e7 k_z
              go_wp2_with fail
              go_roundw
              case rel => exact ⟨k + 1, (a1 - n), q2, c2, E2, by omega, by omega, by first | rfl | (rw [Hk3.out]; rfl), HE2', by omega, e_d, k_d, k_w, BB⟩
              case measure => simp [intOf]; omega
            · clear hrf
              go_upto_region 30 with (fail)
              change Code.wp _ _ _ _ (wc.alloc (.cells #[.int .u64 9, .int .u64 0, .int .u64 0, .int .u64 0] 31))
              replace k_d := k_d.on (BW_alloc (BW_refl _) (.cells #[.int .u64 9, .int .u64 0, .int .u64 0, .int .u64 0] 31))
              replace k_w := k_w.on (BW_alloc (BW_refl _) (.cells #[.int .u64 9, .int .u64 0, .int .u64 0, .int .u64 0] 31))
              replace e_d := Lib.hid (e_d.out.on (BW_alloc (BW_refl _) (.cells #[.int .u64 9, .int .u64 0, .int .u64 0, .int .u64 0] 31)))
              replace BB := BW_on BB (BW_alloc (BW_refl _) (.cells #[.int .u64 9, .int .u64 0, .int .u64 0, .int .u64 0] 31))
              have k_z := blk1 wc 31 #[.int .u64 9, .int .u64 0, .int .u64 0, .int .u64 0]
              have B1 := fun v w hv => r11bal_any v E1 t_esc1 t_x w hv (by omega) (by decide) (by decide)
              rw [hE.out.esc, wv_small (n := a1) (by have := hE.out.le; omega)] at B1
              replace B1 := Lib.hid B1
              have B2 := fun v w hv => r11sup_any v E1 t_x w hv (by omega) (by decide)
              rw [hE.out.tot, show wv 9 = .agg #[.int .u64 9, .int .u64 0, .int .u64 0, .int .u64 0] from wv_small (n := 9) (by decide)] at B2
              replace B2 := Lib.hid B2
              have HE1 := Lib.hid (fun w => eqW17 ((a1 : Nat) : Int) 0 0 0 w)
              have HE2 := Lib.hid (fun w => eqW17 9 0 0 0 w)
              generalize hVZ : wc.alloc (.cells #[.int .u64 9, .int .u64 0, .int .u64 0, .int .u64 0] 31) = VZ at *
              clear hVZ
              refine wp_region_held_drew (S := BxS VZ [(w3.heap.size, 27, #[.slice q1 E1.length c1]), ((w3.heap.size + 1), 31, #[.int .u64 ((a1 : Nat) : Int), .int .u64 0, .int .u64 0, .int .u64 0]), (wc.heap.size, 31, #[.int .u64 9, .int .u64 0, .int .u64 0, .int .u64 0])]) (by kernel_rfl) (((((BxS.nil (BW_refl VZ)).cons k_z).cons k_w).cons k_d)).drew (fun hH0 => ?_)
              refine wpAnyH_take (i := 0) (v := .agg #[.slice q1 E1.length c1]) rfl (by kernel_rfl) (by kernel_rfl) (by kernel_rfl) (fun _ _ _ h => h) (yk_load (by kernel_rfl) _ _ rfl (.pointer (some ⟨w3.heap.size, 0, none⟩)) (by kernel_rfl) _ (fun w' hw' => by have c0 := (hw'.bl _ (.head _)).cell 0; go_simp)) hH0 ?_
              refine wpAnyH_take (i := 3) (v := .agg #[.int .u64 ((a1 : Nat) : Int), .int .u64 0, .int .u64 0, .int .u64 0]) rfl (by kernel_rfl) (by kernel_rfl) (by kernel_rfl) (fun _ _ _ h => h) (yk_load (by kernel_rfl) _ _ rfl (.pointer (some ⟨(w3.heap.size + 1), 0, none⟩)) (by kernel_rfl) _ (fun w' hw' => by have c0 := (hw'.bl _ (.tail _ (.head _))).cell 0; have c1 := (hw'.bl _ (.tail _ (.head _))).cell 1; have c2 := (hw'.bl _ (.tail _ (.head _))).cell 2; have c3 := (hw'.bl _ (.tail _ (.head _))).cell 3; go_simp)) hH0 ?_
              refine wpAnyH_ready (rs := [1]) (by kernel_rfl) (by simp) ?_
              refine AllReadyH.cons rfl (fun K hK => ?_) AllReadyH.nil
              go_simp
              go_at_call 17
              refine (all_any _ E1 _ (e_d.out.on hH0.hb) (by omega)).mono ?_
              rintro e w1 ⟨v1, rfl, hown1, hd1⟩
              have e1 := own_ents hown1
              go_wp2_with fail
              refine hK.out _ _ (hH0.on hd1) (fun hH1 => ?_)
              clear hK K
              refine wpAnyH_ready (rs := [2]) (by kernel_rfl) (by simp) ?_
              refine AllReadyH.cons rfl (fun K hK => ?_) AllReadyH.nil
              go_simp
              go_at_call 24
              refine (B1.out _ _ e1).mono ?_
              rintro e w2 ⟨rfl, hd2⟩
              go_wp2_with fail
              refine hK.out _ _ (hH1.on hd2) (fun hH2 => ?_)
              clear hK K
              refine wpAnyH_take (i := 4) (v := .bool false) rfl (by kernel_rfl) (by kernel_rfl) (by kernel_rfl) (fun _ _ _ h => h) (yk_bin (by kernel_rfl) _ _ _ _ _ rfl (.agg #[.int .u64 ((a1 : Nat) : Int), .int .u64 0, .int .u64 0, .int .u64 0]) (.agg #[.int .u64 ((a1 : Nat) : Int), .int .u64 0, .int .u64 0, .int .u64 0]) (by kernel_rfl) (by kernel_rfl) _ (fun w' hw' => by have h0 := HE1.out w'; go_simp)) hH2 ?_
              refine wpAnyH_take (i := 5) (v := .bool false) rfl (by kernel_rfl) (by kernel_rfl) (by kernel_rfl) (fun _ _ _ h => h) (yk_move (by kernel_rfl) _ rfl _ (by kernel_rfl)) hH2 ?_
              refine wpAnyH_take (i := 6) (v := .agg #[.slice q1 E1.length c1]) rfl (by kernel_rfl) (by kernel_rfl) (by kernel_rfl) (fun _ _ _ h => h) (yk_load (by kernel_rfl) _ _ rfl (.pointer (some ⟨w3.heap.size, 0, none⟩)) (by kernel_rfl) _ (fun w' hw' => by have c0 := (hw'.bl _ (.head _)).cell 0; go_simp)) hH2 ?_
              refine wpAnyH_take (i := 9) (v := .agg #[.int .u64 9, .int .u64 0, .int .u64 0, .int .u64 0]) rfl (by kernel_rfl) (by kernel_rfl) (by kernel_rfl) (fun _ _ _ h => h) (yk_load (by kernel_rfl) _ _ rfl (.pointer (some ⟨wc.heap.size, 0, none⟩)) (by kernel_rfl) _ (fun w' hw' => by have c0 := (hw'.bl _ (.tail _ (.tail _ (.head _)))).cell 0; have c1 := (hw'.bl _ (.tail _ (.tail _ (.head _)))).cell 1; have c2 := (hw'.bl _ (.tail _ (.tail _ (.head _)))).cell 2; have c3 := (hw'.bl _ (.tail _ (.tail _ (.head _)))).cell 3; go_simp)) hH2 ?_
              refine wpAnyH_ready (rs := [7]) (by kernel_rfl) (by simp) ?_
              refine AllReadyH.cons rfl (fun K hK => ?_) AllReadyH.nil
              go_simp
              go_at_call 17
              refine (all_any _ E1 _ (e_d.out.on hH2.hb) (by omega)).mono ?_
              rintro e w7 ⟨v7, rfl, hown7, hd7⟩
              have e7 := own_ents hown7
              go_wp2_with fail
              refine hK.out _ _ (hH2.on hd7) (fun hH3 => ?_)
              clear hK K
              refine wpAnyH_ready (rs := [8]) (by kernel_rfl) (by simp) ?_
              refine AllReadyH.cons rfl (fun K hK => ?_) AllReadyH.nil
              go_simp
              go_at_call 25
              refine (B2.out _ _ e7).mono ?_
              rintro e w8 ⟨rfl, hd8⟩
              go_wp2_with fail
              refine hK.out _ _ (hH3.on hd8) (fun hH4 => ?_)
              clear hK K
              refine wpAnyH_take (i := 10) (v := .bool false) rfl (by kernel_rfl) (by kernel_rfl) (by kernel_rfl) (fun _ _ _ h => h) (yk_bin (by kernel_rfl) _ _ _ _ _ rfl (.agg #[.int .u64 9, .int .u64 0, .int .u64 0, .int .u64 0]) (.agg #[.int .u64 9, .int .u64 0, .int .u64 0, .int .u64 0]) (by kernel_rfl) (by kernel_rfl) _ (fun w' hw' => by have h0 := HE2.out w'; go_simp)) hH4 ?_
              refine wpAnyH_take (i := 11) (v := .bool false) rfl (by kernel_rfl) (by kernel_rfl) (by kernel_rfl) (fun _ _ _ h => h) (yk_pick (by kernel_rfl) _ _ _ rfl false (by kernel_rfl) _ (by kernel_rfl)) hH4 ?_
              refine wpAnyH_done (by kernel_rfl) ?_ _
              have hbz := hH4.hb
              replace k_d := k_d.on hbz
              replace k_w := k_w.on hbz
              replace e_d := Lib.hid (e_d.out.on hbz)
              replace BB := BW_on BB hbz
              clear hH0 hH1 hH2 hH3 hH4 hbz hd1 hd2 hd7 hd8 hown1 hown7 e1 e7 k_z
              go_wp2_with fail
              go_roundw
              case rel => exact ⟨k + 1, a1, q1, c1, E1, by omega, by omega, by first | rfl | (rw [Hk3.out]; rfl), hE, by omega, e_d, k_d, k_w, BB⟩
              case measure => simp [intOf]; omega
          · by_cases e2 : bits .and .i64 b 3 = 2
            · have e1' : ¬ bits .and .i64 b 3 = 1 := by rw [e2]; decide
              clear hrf
              rcases hN : recvL E1 (1 + (k : Int)) 9 0 t_c2 t_c1 t_c2x t_bob t_cat n with ⟨z, N⟩
              have HR := fun v w hv => recv_any v E1 (1 + (k : Int)) 9 0 t_c2 t_c1 t_c2x t_bob t_cat n w hv hE.out.srt (by omega) (by decide) (by decide) (by decide) (by decide) (by decide) (W256.small (by omega))
              rw [LS.1, LS.2.1, LS.2.2.1, LS.2.2.2, hN] at HR
              replace HR := Lib.hid HR
              have hinv := (recv_inv hE.out.srt (1 + (k : Int)) 9 0 t_c2 t_c1 t_c2x t_bob t_cat n).2
              rw [hN] at hinv
              have hlN : N.length ≤ E1.length + 2 := hinv
              have hes := Lib.hid (es_recv hE.out (by omega) (by omega) hn hN)
              clear hinv hN
              go_upto_region 20 with (fail)
              change Code.wp _ _ _ _ wc
              clear cb e1' e2
              have c_n := fun i => k_n.cell i
              go_upto_region 21 with (fail)
              change Code.wp _ _ _ _ (wc.alloc (.cells #[.int .i64 (1 + (k : Int)), .string t_c2, .string t_c1, .string t_c2x, .int .u64 (n : Int), .int .u64 0, .int .u64 0, .int .u64 0, .string t_bob, .string t_cat, .int .i64 9, .int .i64 0] 35))
              clear c_n
              clear k_p
              replace k_d := k_d.on (BW_alloc (BW_refl _) (.cells #[.int .i64 (1 + (k : Int)), .string t_c2, .string t_c1, .string t_c2x, .int .u64 (n : Int), .int .u64 0, .int .u64 0, .int .u64 0, .string t_bob, .string t_cat, .int .i64 9, .int .i64 0] 35))
              replace k_w := k_w.on (BW_alloc (BW_refl _) (.cells #[.int .i64 (1 + (k : Int)), .string t_c2, .string t_c1, .string t_c2x, .int .u64 (n : Int), .int .u64 0, .int .u64 0, .int .u64 0, .string t_bob, .string t_cat, .int .i64 9, .int .i64 0] 35))
              replace k_n := k_n.on (BW_alloc (BW_refl _) (.cells #[.int .i64 (1 + (k : Int)), .string t_c2, .string t_c1, .string t_c2x, .int .u64 (n : Int), .int .u64 0, .int .u64 0, .int .u64 0, .string t_bob, .string t_cat, .int .i64 9, .int .i64 0] 35))
              replace e_d := Lib.hid (e_d.out.on (BW_alloc (BW_refl _) (.cells #[.int .i64 (1 + (k : Int)), .string t_c2, .string t_c1, .string t_c2x, .int .u64 (n : Int), .int .u64 0, .int .u64 0, .int .u64 0, .string t_bob, .string t_cat, .int .i64 9, .int .i64 0] 35)))
              replace BB := BW_on BB (BW_alloc (BW_refl _) (.cells #[.int .i64 (1 + (k : Int)), .string t_c2, .string t_c1, .string t_c2x, .int .u64 (n : Int), .int .u64 0, .int .u64 0, .int .u64 0, .string t_bob, .string t_cat, .int .i64 9, .int .i64 0] 35))
              have k_q := blk1 wc 35 #[.int .i64 (1 + (k : Int)), .string t_c2, .string t_c1, .string t_c2x, .int .u64 (n : Int), .int .u64 0, .int .u64 0, .int .u64 0, .string t_bob, .string t_cat, .int .i64 9, .int .i64 0]
              have c_d := fun i => k_d.cell i
              have c_q := fun i => k_q.cell i
              go_wp2_with fail
              refine (HR.out _ _ e_d.out).mono ?_
              rintro e w6 ⟨qn, cn, rfl, hen, hb⟩
              clear c_d c_q
              replace k_d := k_d.on hb
              replace k_w := k_w.on hb
              replace k_n := k_n.on hb
              replace k_q := k_q.on hb
              replace e_d := Lib.hid (e_d.out.on hb)
              replace BB := BW_on BB hb
              replace k_d := k_d.on (BW_alloc (BW_refl _) (.cells #[.slice qn N.length cn] 27))
              replace k_w := k_w.on (BW_alloc (BW_refl _) (.cells #[.slice qn N.length cn] 27))
              replace k_n := k_n.on (BW_alloc (BW_refl _) (.cells #[.slice qn N.length cn] 27))
              replace k_q := k_q.on (BW_alloc (BW_refl _) (.cells #[.slice qn N.length cn] 27))
              replace e_d := Lib.hid (e_d.out.on (BW_alloc (BW_refl _) (.cells #[.slice qn N.length cn] 27)))
              replace BB := BW_on BB (BW_alloc (BW_refl _) (.cells #[.slice qn N.length cn] 27))
              have k_y := blk1 w6 27 #[.slice qn N.length cn]
              have e_y := Lib.hid (hen.on (BW_alloc (BW_refl _) (.cells #[.slice qn N.length cn] 27)))
              clear hen hb HR
              clear k_q
              have hwn : wr.heap.size < w6.heap.size + 1 := by have := k_n.lt; simpa using this
              rcases hes.out with ⟨hz, hna, hn0, hEN⟩ | ⟨hz, hno⟩
              · have HEN : Hid (EsI N (a1 - n)) := hEN
                clear hEN
                have hn0i : ¬ ((n : Int) = 0) := by omega
                have hEQ := Lib.hid (fun w => eqWne (n : Int) hn0i w)
                clear hes
                have c_w := fun i => k_w.cell i
                have c_n := fun i => k_n.cell i
                go_wp2_with fail
                refine (ssub_yes a1 n (by omega) hna _).mono ?_
                rintro e wq7 ⟨rfl, hb⟩
                clear c_w c_n
                replace k_d := k_d.on hb
                replace k_w := k_w.on hb
                replace k_n := k_n.on hb
                replace k_y := k_y.on hb
                replace e_d := Lib.hid (e_d.out.on hb)
                replace e_y := Lib.hid (e_y.out.on hb)
                replace BB := BW_on BB hb
                clear hb
                replace k_d := k_d.on (BW_alloc (BW_refl _) (.cells #[.int .u64 ((a1 - n : Nat) : Int), .int .u64 0, .int .u64 0, .int .u64 0] 31))
                replace k_w := k_w.on (BW_alloc (BW_refl _) (.cells #[.int .u64 ((a1 - n : Nat) : Int), .int .u64 0, .int .u64 0, .int .u64 0] 31))
                replace k_n := k_n.on (BW_alloc (BW_refl _) (.cells #[.int .u64 ((a1 - n : Nat) : Int), .int .u64 0, .int .u64 0, .int .u64 0] 31))
                replace k_y := k_y.on (BW_alloc (BW_refl _) (.cells #[.int .u64 ((a1 - n : Nat) : Int), .int .u64 0, .int .u64 0, .int .u64 0] 31))
                replace e_d := Lib.hid (e_d.out.on (BW_alloc (BW_refl _) (.cells #[.int .u64 ((a1 - n : Nat) : Int), .int .u64 0, .int .u64 0, .int .u64 0] 31)))
                replace e_y := Lib.hid (e_y.out.on (BW_alloc (BW_refl _) (.cells #[.int .u64 ((a1 - n : Nat) : Int), .int .u64 0, .int .u64 0, .int .u64 0] 31)))
                replace BB := BW_on BB (BW_alloc (BW_refl _) (.cells #[.int .u64 ((a1 - n : Nat) : Int), .int .u64 0, .int .u64 0, .int .u64 0] 31))
                have k_l := blk1 wq7 31 #[.int .u64 ((a1 - n : Nat) : Int), .int .u64 0, .int .u64 0, .int .u64 0]
                have hlw : w3.heap.size + 1 < wq7.heap.size + 1 := by have := k_w.lt; simpa using this
                have k_0 := blk2 wq7 (.cells #[.int .u64 ((a1 - n : Nat) : Int), .int .u64 0, .int .u64 0, .int .u64 0] 31) 31 #[.int .u64 0, .int .u64 0, .int .u64 0, .int .u64 0]
                replace k_d := k_d.on (BW_alloc (BW_refl _) (.cells #[.int .u64 0, .int .u64 0, .int .u64 0, .int .u64 0] 31))
                replace k_w := k_w.on (BW_alloc (BW_refl _) (.cells #[.int .u64 0, .int .u64 0, .int .u64 0, .int .u64 0] 31))
                replace k_n := k_n.on (BW_alloc (BW_refl _) (.cells #[.int .u64 0, .int .u64 0, .int .u64 0, .int .u64 0] 31))
                replace k_y := k_y.on (BW_alloc (BW_refl _) (.cells #[.int .u64 0, .int .u64 0, .int .u64 0, .int .u64 0] 31))
                replace k_l := k_l.on (BW_alloc (BW_refl _) (.cells #[.int .u64 0, .int .u64 0, .int .u64 0, .int .u64 0] 31))
                replace e_d := Lib.hid (e_d.out.on (BW_alloc (BW_refl _) (.cells #[.int .u64 0, .int .u64 0, .int .u64 0, .int .u64 0] 31)))
                replace e_y := Lib.hid (e_y.out.on (BW_alloc (BW_refl _) (.cells #[.int .u64 0, .int .u64 0, .int .u64 0, .int .u64 0] 31)))
                replace BB := BW_on BB (BW_alloc (BW_refl _) (.cells #[.int .u64 0, .int .u64 0, .int .u64 0, .int .u64 0] 31))
                have hEq := hEQ.out
                have c_n := fun i => k_n.cell i
                have c_0 := fun i => k_0.cell i
                have c_y := fun i => k_y.cell i
                go_upto_region 27 with (fail)
                change Code.wp _ _ _ _ ((wq7.alloc (.cells #[.int .u64 ((a1 - n : Nat) : Int), .int .u64 0, .int .u64 0, .int .u64 0] 31)).alloc (.cells #[.int .u64 0, .int .u64 0, .int .u64 0, .int .u64 0] 31))
                generalize hV9 : ((wq7.alloc (.cells #[.int .u64 ((a1 - n : Nat) : Int), .int .u64 0, .int .u64 0, .int .u64 0] 31)).alloc (.cells #[.int .u64 0, .int .u64 0, .int .u64 0, .int .u64 0] 31)) = V9 at *
                clear hV9 hEq
                clear c_n c_0 c_y
                have xe := Lib.hid (e_y.out.box k_d (.slice qn N.length cn))
                have xd := k_d.set_ 0 (.slice qn N.length cn)
                have xb := BW_off (p := ⟨w3.heap.size, 0, none⟩) hwd (.slice qn N.length cn) BB
                have xw := k_w.far (p := ⟨w3.heap.size, 0, none⟩) (by show (w3.heap.size + 1) ≠ w3.heap.size; omega) (.slice qn N.length cn)
                have xl := k_l.far (p := ⟨w3.heap.size, 0, none⟩) (by show wq7.heap.size ≠ w3.heap.size; omega) (.slice qn N.length cn)
                have c_y := fun i => k_y.cell i
                have c_d := fun i => k_d.cell i
                have f_d := fun i => k_d.free i
                go_upto_region 28 with (fail)
                change Code.wp _ _ _ _ (V9.setCell ⟨w3.heap.size, 0, none⟩ (.slice qn N.length cn))
                clear c_y c_d f_d e_y e_d k_d k_w k_n k_y k_l k_0 BB
                generalize V9.setCell ⟨w3.heap.size, 0, none⟩ (.slice qn N.length cn) = V10 at *
                have e_d := xe
                have k_d := xd
                have BB := xb
                have k_w := xw
                have k_l := xl
                clear xe xd xb xw xl
                have ye := Lib.hid (e_d.out.box4 k_w (.int .u64 ((a1 - n : Nat) : Int)) (.int .u64 0) (.int .u64 0) (.int .u64 0))
                have yd := k_d.far4 (g := (w3.heap.size + 1)) (by show w3.heap.size ≠ (w3.heap.size + 1); omega) (.int .u64 ((a1 - n : Nat) : Int)) (.int .u64 0) (.int .u64 0) (.int .u64 0)
                have yw := k_w.store4 (.int .u64 ((a1 - n : Nat) : Int)) (.int .u64 0) (.int .u64 0) (.int .u64 0)
                have yb := below_store4 BB (g := (w3.heap.size + 1)) (by omega) (.int .u64 ((a1 - n : Nat) : Int)) (.int .u64 0) (.int .u64 0) (.int .u64 0)
                have c_l := fun i => k_l.cell i
                have c_w := fun i => k_w.cell i
                have f_w := fun i => k_w.free i
                clear e_d k_d BB
                go_upto_region 29 with (fail)
                change Code.wp _ _ _ _ ((((V10.setCell ⟨(w3.heap.size + 1), 0, none⟩ (.int .u64 ((a1 - n : Nat) : Int))).setCell ⟨(w3.heap.size + 1), 1, none⟩ (.int .u64 0)).setCell ⟨(w3.heap.size + 1), 2, none⟩ (.int .u64 0)).setCell ⟨(w3.heap.size + 1), 3, none⟩ (.int .u64 0))
                clear c_l c_w f_w k_w k_l
                generalize (((V10.setCell ⟨(w3.heap.size + 1), 0, none⟩ (.int .u64 ((a1 - n : Nat) : Int))).setCell ⟨(w3.heap.size + 1), 1, none⟩ (.int .u64 0)).setCell ⟨(w3.heap.size + 1), 2, none⟩ (.int .u64 0)).setCell ⟨(w3.heap.size + 1), 3, none⟩ (.int .u64 0) = V11 at *
                have e_d := ye
                have k_d := yd
                have k_w := yw
                have BB := yb
                clear ye yd yw yb
                go_upto_region 30 with (fail)
                change Code.wp _ _ _ _ (V11.alloc (.cells #[.int .u64 9, .int .u64 0, .int .u64 0, .int .u64 0] 31))
                replace k_d := k_d.on (BW_alloc (BW_refl _) (.cells #[.int .u64 9, .int .u64 0, .int .u64 0, .int .u64 0] 31))
                replace k_w := k_w.on (BW_alloc (BW_refl _) (.cells #[.int .u64 9, .int .u64 0, .int .u64 0, .int .u64 0] 31))
                replace e_d := Lib.hid (e_d.out.on (BW_alloc (BW_refl _) (.cells #[.int .u64 9, .int .u64 0, .int .u64 0, .int .u64 0] 31)))
                replace BB := BW_on BB (BW_alloc (BW_refl _) (.cells #[.int .u64 9, .int .u64 0, .int .u64 0, .int .u64 0] 31))
                have k_z := blk1 V11 31 #[.int .u64 9, .int .u64 0, .int .u64 0, .int .u64 0]
                have B1 := fun v w hv => r11bal_any v N t_esc1 t_x w hv (by omega) (by decide) (by decide)
                rw [HEN.out.esc, wv_small (n := (a1 - n)) (by have := HEN.out.le; omega)] at B1
                replace B1 := Lib.hid B1
                have B2 := fun v w hv => r11sup_any v N t_x w hv (by omega) (by decide)
                rw [HEN.out.tot, show wv 9 = .agg #[.int .u64 9, .int .u64 0, .int .u64 0, .int .u64 0] from wv_small (n := 9) (by decide)] at B2
                replace B2 := Lib.hid B2
                have HE1 := Lib.hid (fun w => eqW17 (((a1 - n) : Nat) : Int) 0 0 0 w)
                have HE2 := Lib.hid (fun w => eqW17 9 0 0 0 w)
                generalize hVZ : V11.alloc (.cells #[.int .u64 9, .int .u64 0, .int .u64 0, .int .u64 0] 31) = VZ at *
                clear hVZ
                refine wp_region_held_drew (S := BxS VZ [(w3.heap.size, 27, #[.slice qn N.length cn]), ((w3.heap.size + 1), 31, #[.int .u64 (((a1 - n) : Nat) : Int), .int .u64 0, .int .u64 0, .int .u64 0]), (V11.heap.size, 31, #[.int .u64 9, .int .u64 0, .int .u64 0, .int .u64 0])]) (by kernel_rfl) (((((BxS.nil (BW_refl VZ)).cons k_z).cons k_w).cons k_d)).drew (fun hH0 => ?_)
                refine wpAnyH_take (i := 0) (v := .agg #[.slice qn N.length cn]) rfl (by kernel_rfl) (by kernel_rfl) (by kernel_rfl) (fun _ _ _ h => h) (yk_load (by kernel_rfl) _ _ rfl (.pointer (some ⟨w3.heap.size, 0, none⟩)) (by kernel_rfl) _ (fun w' hw' => by have c0 := (hw'.bl _ (.head _)).cell 0; go_simp)) hH0 ?_
                refine wpAnyH_take (i := 3) (v := .agg #[.int .u64 (((a1 - n) : Nat) : Int), .int .u64 0, .int .u64 0, .int .u64 0]) rfl (by kernel_rfl) (by kernel_rfl) (by kernel_rfl) (fun _ _ _ h => h) (yk_load (by kernel_rfl) _ _ rfl (.pointer (some ⟨(w3.heap.size + 1), 0, none⟩)) (by kernel_rfl) _ (fun w' hw' => by have c0 := (hw'.bl _ (.tail _ (.head _))).cell 0; have c1 := (hw'.bl _ (.tail _ (.head _))).cell 1; have c2 := (hw'.bl _ (.tail _ (.head _))).cell 2; have c3 := (hw'.bl _ (.tail _ (.head _))).cell 3; go_simp)) hH0 ?_
                refine wpAnyH_ready (rs := [1]) (by kernel_rfl) (by simp) ?_
                refine AllReadyH.cons rfl (fun K hK => ?_) AllReadyH.nil
                go_simp
                go_at_call 17
                refine (all_any _ N _ (e_d.out.on hH0.hb) (by omega)).mono ?_
                rintro e w1 ⟨v1, rfl, hown1, hd1⟩
                have e1 := own_ents hown1
                go_wp2_with fail
                refine hK.out _ _ (hH0.on hd1) (fun hH1 => ?_)
                clear hK K
                refine wpAnyH_ready (rs := [2]) (by kernel_rfl) (by simp) ?_
                refine AllReadyH.cons rfl (fun K hK => ?_) AllReadyH.nil
                go_simp
                go_at_call 24
                refine (B1.out _ _ e1).mono ?_
                rintro e w2 ⟨rfl, hd2⟩
                go_wp2_with fail
                refine hK.out _ _ (hH1.on hd2) (fun hH2 => ?_)
                clear hK K
                refine wpAnyH_take (i := 4) (v := .bool false) rfl (by kernel_rfl) (by kernel_rfl) (by kernel_rfl) (fun _ _ _ h => h) (yk_bin (by kernel_rfl) _ _ _ _ _ rfl (.agg #[.int .u64 (((a1 - n) : Nat) : Int), .int .u64 0, .int .u64 0, .int .u64 0]) (.agg #[.int .u64 (((a1 - n) : Nat) : Int), .int .u64 0, .int .u64 0, .int .u64 0]) (by kernel_rfl) (by kernel_rfl) _ (fun w' hw' => by have h0 := HE1.out w'; go_simp)) hH2 ?_
                refine wpAnyH_take (i := 5) (v := .bool false) rfl (by kernel_rfl) (by kernel_rfl) (by kernel_rfl) (fun _ _ _ h => h) (yk_move (by kernel_rfl) _ rfl _ (by kernel_rfl)) hH2 ?_
                refine wpAnyH_take (i := 6) (v := .agg #[.slice qn N.length cn]) rfl (by kernel_rfl) (by kernel_rfl) (by kernel_rfl) (fun _ _ _ h => h) (yk_load (by kernel_rfl) _ _ rfl (.pointer (some ⟨w3.heap.size, 0, none⟩)) (by kernel_rfl) _ (fun w' hw' => by have c0 := (hw'.bl _ (.head _)).cell 0; go_simp)) hH2 ?_
                refine wpAnyH_take (i := 9) (v := .agg #[.int .u64 9, .int .u64 0, .int .u64 0, .int .u64 0]) rfl (by kernel_rfl) (by kernel_rfl) (by kernel_rfl) (fun _ _ _ h => h) (yk_load (by kernel_rfl) _ _ rfl (.pointer (some ⟨V11.heap.size, 0, none⟩)) (by kernel_rfl) _ (fun w' hw' => by have c0 := (hw'.bl _ (.tail _ (.tail _ (.head _)))).cell 0; have c1 := (hw'.bl _ (.tail _ (.tail _ (.head _)))).cell 1; have c2 := (hw'.bl _ (.tail _ (.tail _ (.head _)))).cell 2; have c3 := (hw'.bl _ (.tail _ (.tail _ (.head _)))).cell 3; go_simp)) hH2 ?_
                refine wpAnyH_ready (rs := [7]) (by kernel_rfl) (by simp) ?_
                refine AllReadyH.cons rfl (fun K hK => ?_) AllReadyH.nil
                go_simp
                go_at_call 17
                refine (all_any _ N _ (e_d.out.on hH2.hb) (by omega)).mono ?_
                rintro e w7 ⟨v7, rfl, hown7, hd7⟩
                have e7 := own_ents hown7
                go_wp2_with fail
                refine hK.out _ _ (hH2.on hd7) (fun hH3 => ?_)
                clear hK K
                refine wpAnyH_ready (rs := [8]) (by kernel_rfl) (by simp) ?_
                refine AllReadyH.cons rfl (fun K hK => ?_) AllReadyH.nil
                go_simp
                go_at_call 25
                refine (B2.out _ _ e7).mono ?_
                rintro e w8 ⟨rfl, hd8⟩
                go_wp2_with fail
                refine hK.out _ _ (hH3.on hd8) (fun hH4 => ?_)
                clear hK K
                refine wpAnyH_take (i := 10) (v := .bool false) rfl (by kernel_rfl) (by kernel_rfl) (by kernel_rfl) (fun _ _ _ h => h) (yk_bin (by kernel_rfl) _ _ _ _ _ rfl (.agg #[.int .u64 9, .int .u64 0, .int .u64 0, .int .u64 0]) (.agg #[.int .u64 9, .int .u64 0, .int .u64 0, .int .u64 0]) (by kernel_rfl) (by kernel_rfl) _ (fun w' hw' => by have h0 := HE2.out w'; go_simp)) hH4 ?_
                refine wpAnyH_take (i := 11) (v := .bool false) rfl (by kernel_rfl) (by kernel_rfl) (by kernel_rfl) (fun _ _ _ h => h) (yk_pick (by kernel_rfl) _ _ _ rfl false (by kernel_rfl) _ (by kernel_rfl)) hH4 ?_
                refine wpAnyH_done (by kernel_rfl) ?_ _
                have hbz := hH4.hb
                replace k_d := k_d.on hbz
                replace k_w := k_w.on hbz
                replace e_d := Lib.hid (e_d.out.on hbz)
                replace BB := BW_on BB hbz
                clear hH0 hH1 hH2 hH3 hH4 hbz hd1 hd2 hd7 hd8 hown1 hown7 e1 e7 k_z
                go_wp2_with fail
                go_roundw
                case rel => exact ⟨k + 1, (a1 - n), qn, cn, N, by omega, by omega, by first | rfl | (rw [Hk3.out]; rfl), HEN, by omega, e_d, k_d, k_w, BB⟩
                case measure => simp [intOf]; omega
              · have hzb : ¬ z = 0 := hz
                by_cases hna : n ≤ a1
                · have hn0 : n = 0 := by omega
                  have hEQ := Lib.hid (fun w => eqWz17 hn0 w)
                  clear hn0
                  clear hes
                  have c_w := fun i => k_w.cell i
                  have c_n := fun i => k_n.cell i
                  go_wp2_with fail
                  refine (ssub_yes a1 n (by omega) hna _).mono ?_
                  rintro e wq7 ⟨rfl, hb⟩
                  clear c_w c_n
                  replace k_d := k_d.on hb
                  replace k_w := k_w.on hb
                  replace k_n := k_n.on hb
                  replace k_y := k_y.on hb
                  replace e_d := Lib.hid (e_d.out.on hb)
                  replace e_y := Lib.hid (e_y.out.on hb)
                  replace BB := BW_on BB hb
                  clear hb
                  replace k_d := k_d.on (BW_alloc (BW_refl _) (.cells #[.int .u64 ((a1 - n : Nat) : Int), .int .u64 0, .int .u64 0, .int .u64 0] 31))
                  replace k_w := k_w.on (BW_alloc (BW_refl _) (.cells #[.int .u64 ((a1 - n : Nat) : Int), .int .u64 0, .int .u64 0, .int .u64 0] 31))
                  replace k_n := k_n.on (BW_alloc (BW_refl _) (.cells #[.int .u64 ((a1 - n : Nat) : Int), .int .u64 0, .int .u64 0, .int .u64 0] 31))
                  replace k_y := k_y.on (BW_alloc (BW_refl _) (.cells #[.int .u64 ((a1 - n : Nat) : Int), .int .u64 0, .int .u64 0, .int .u64 0] 31))
                  replace e_d := Lib.hid (e_d.out.on (BW_alloc (BW_refl _) (.cells #[.int .u64 ((a1 - n : Nat) : Int), .int .u64 0, .int .u64 0, .int .u64 0] 31)))
                  replace e_y := Lib.hid (e_y.out.on (BW_alloc (BW_refl _) (.cells #[.int .u64 ((a1 - n : Nat) : Int), .int .u64 0, .int .u64 0, .int .u64 0] 31)))
                  replace BB := BW_on BB (BW_alloc (BW_refl _) (.cells #[.int .u64 ((a1 - n : Nat) : Int), .int .u64 0, .int .u64 0, .int .u64 0] 31))
                  have k_l := blk1 wq7 31 #[.int .u64 ((a1 - n : Nat) : Int), .int .u64 0, .int .u64 0, .int .u64 0]
                  have hlw : w3.heap.size + 1 < wq7.heap.size + 1 := by have := k_w.lt; simpa using this
                  have k_0 := blk2 wq7 (.cells #[.int .u64 ((a1 - n : Nat) : Int), .int .u64 0, .int .u64 0, .int .u64 0] 31) 31 #[.int .u64 0, .int .u64 0, .int .u64 0, .int .u64 0]
                  replace k_d := k_d.on (BW_alloc (BW_refl _) (.cells #[.int .u64 0, .int .u64 0, .int .u64 0, .int .u64 0] 31))
                  replace k_w := k_w.on (BW_alloc (BW_refl _) (.cells #[.int .u64 0, .int .u64 0, .int .u64 0, .int .u64 0] 31))
                  replace k_n := k_n.on (BW_alloc (BW_refl _) (.cells #[.int .u64 0, .int .u64 0, .int .u64 0, .int .u64 0] 31))
                  replace k_y := k_y.on (BW_alloc (BW_refl _) (.cells #[.int .u64 0, .int .u64 0, .int .u64 0, .int .u64 0] 31))
                  replace k_l := k_l.on (BW_alloc (BW_refl _) (.cells #[.int .u64 0, .int .u64 0, .int .u64 0, .int .u64 0] 31))
                  replace e_d := Lib.hid (e_d.out.on (BW_alloc (BW_refl _) (.cells #[.int .u64 0, .int .u64 0, .int .u64 0, .int .u64 0] 31)))
                  replace e_y := Lib.hid (e_y.out.on (BW_alloc (BW_refl _) (.cells #[.int .u64 0, .int .u64 0, .int .u64 0, .int .u64 0] 31)))
                  replace BB := BW_on BB (BW_alloc (BW_refl _) (.cells #[.int .u64 0, .int .u64 0, .int .u64 0, .int .u64 0] 31))
                  have hEq := hEQ.out
                  have c_n := fun i => k_n.cell i
                  have c_0 := fun i => k_0.cell i
                  go_upto_region 29 with (fail)
                  change Code.wp _ _ _ _ ((wq7.alloc (.cells #[.int .u64 ((a1 - n : Nat) : Int), .int .u64 0, .int .u64 0, .int .u64 0] 31)).alloc (.cells #[.int .u64 0, .int .u64 0, .int .u64 0, .int .u64 0] 31))
                  generalize hV9 : ((wq7.alloc (.cells #[.int .u64 ((a1 - n : Nat) : Int), .int .u64 0, .int .u64 0, .int .u64 0] 31)).alloc (.cells #[.int .u64 0, .int .u64 0, .int .u64 0, .int .u64 0] 31)) = V9 at *
                  clear hV9 hEq
                  clear c_n c_0
                  go_upto_region 30 with (fail)
                  change Code.wp _ _ _ _ (V9.alloc (.cells #[.int .u64 9, .int .u64 0, .int .u64 0, .int .u64 0] 31))
                  replace k_d := k_d.on (BW_alloc (BW_refl _) (.cells #[.int .u64 9, .int .u64 0, .int .u64 0, .int .u64 0] 31))
                  replace k_w := k_w.on (BW_alloc (BW_refl _) (.cells #[.int .u64 9, .int .u64 0, .int .u64 0, .int .u64 0] 31))
                  replace e_d := Lib.hid (e_d.out.on (BW_alloc (BW_refl _) (.cells #[.int .u64 9, .int .u64 0, .int .u64 0, .int .u64 0] 31)))
                  replace BB := BW_on BB (BW_alloc (BW_refl _) (.cells #[.int .u64 9, .int .u64 0, .int .u64 0, .int .u64 0] 31))
                  have k_z := blk1 V9 31 #[.int .u64 9, .int .u64 0, .int .u64 0, .int .u64 0]
                  have B1 := fun v w hv => r11bal_any v E1 t_esc1 t_x w hv (by omega) (by decide) (by decide)
                  rw [hE.out.esc, wv_small (n := a1) (by have := hE.out.le; omega)] at B1
                  replace B1 := Lib.hid B1
                  have B2 := fun v w hv => r11sup_any v E1 t_x w hv (by omega) (by decide)
                  rw [hE.out.tot, show wv 9 = .agg #[.int .u64 9, .int .u64 0, .int .u64 0, .int .u64 0] from wv_small (n := 9) (by decide)] at B2
                  replace B2 := Lib.hid B2
                  have HE1 := Lib.hid (fun w => eqW17 ((a1 : Nat) : Int) 0 0 0 w)
                  have HE2 := Lib.hid (fun w => eqW17 9 0 0 0 w)
                  generalize hVZ : V9.alloc (.cells #[.int .u64 9, .int .u64 0, .int .u64 0, .int .u64 0] 31) = VZ at *
                  clear hVZ
                  refine wp_region_held_drew (S := BxS VZ [(w3.heap.size, 27, #[.slice q1 E1.length c1]), ((w3.heap.size + 1), 31, #[.int .u64 ((a1 : Nat) : Int), .int .u64 0, .int .u64 0, .int .u64 0]), (V9.heap.size, 31, #[.int .u64 9, .int .u64 0, .int .u64 0, .int .u64 0])]) (by kernel_rfl) (((((BxS.nil (BW_refl VZ)).cons k_z).cons k_w).cons k_d)).drew (fun hH0 => ?_)
                  refine wpAnyH_take (i := 0) (v := .agg #[.slice q1 E1.length c1]) rfl (by kernel_rfl) (by kernel_rfl) (by kernel_rfl) (fun _ _ _ h => h) (yk_load (by kernel_rfl) _ _ rfl (.pointer (some ⟨w3.heap.size, 0, none⟩)) (by kernel_rfl) _ (fun w' hw' => by have c0 := (hw'.bl _ (.head _)).cell 0; go_simp)) hH0 ?_
                  refine wpAnyH_take (i := 3) (v := .agg #[.int .u64 ((a1 : Nat) : Int), .int .u64 0, .int .u64 0, .int .u64 0]) rfl (by kernel_rfl) (by kernel_rfl) (by kernel_rfl) (fun _ _ _ h => h) (yk_load (by kernel_rfl) _ _ rfl (.pointer (some ⟨(w3.heap.size + 1), 0, none⟩)) (by kernel_rfl) _ (fun w' hw' => by have c0 := (hw'.bl _ (.tail _ (.head _))).cell 0; have c1 := (hw'.bl _ (.tail _ (.head _))).cell 1; have c2 := (hw'.bl _ (.tail _ (.head _))).cell 2; have c3 := (hw'.bl _ (.tail _ (.head _))).cell 3; go_simp)) hH0 ?_
                  refine wpAnyH_ready (rs := [1]) (by kernel_rfl) (by simp) ?_
                  refine AllReadyH.cons rfl (fun K hK => ?_) AllReadyH.nil
                  go_simp
                  go_at_call 17
                  refine (all_any _ E1 _ (e_d.out.on hH0.hb) (by omega)).mono ?_
                  rintro e w1 ⟨v1, rfl, hown1, hd1⟩
                  have e1 := own_ents hown1
                  go_wp2_with fail
                  refine hK.out _ _ (hH0.on hd1) (fun hH1 => ?_)
                  clear hK K
                  refine wpAnyH_ready (rs := [2]) (by kernel_rfl) (by simp) ?_
                  refine AllReadyH.cons rfl (fun K hK => ?_) AllReadyH.nil
                  go_simp
                  go_at_call 24
                  refine (B1.out _ _ e1).mono ?_
                  rintro e w2 ⟨rfl, hd2⟩
                  go_wp2_with fail
                  refine hK.out _ _ (hH1.on hd2) (fun hH2 => ?_)
                  clear hK K
                  refine wpAnyH_take (i := 4) (v := .bool false) rfl (by kernel_rfl) (by kernel_rfl) (by kernel_rfl) (fun _ _ _ h => h) (yk_bin (by kernel_rfl) _ _ _ _ _ rfl (.agg #[.int .u64 ((a1 : Nat) : Int), .int .u64 0, .int .u64 0, .int .u64 0]) (.agg #[.int .u64 ((a1 : Nat) : Int), .int .u64 0, .int .u64 0, .int .u64 0]) (by kernel_rfl) (by kernel_rfl) _ (fun w' hw' => by have h0 := HE1.out w'; go_simp)) hH2 ?_
                  refine wpAnyH_take (i := 5) (v := .bool false) rfl (by kernel_rfl) (by kernel_rfl) (by kernel_rfl) (fun _ _ _ h => h) (yk_move (by kernel_rfl) _ rfl _ (by kernel_rfl)) hH2 ?_
                  refine wpAnyH_take (i := 6) (v := .agg #[.slice q1 E1.length c1]) rfl (by kernel_rfl) (by kernel_rfl) (by kernel_rfl) (fun _ _ _ h => h) (yk_load (by kernel_rfl) _ _ rfl (.pointer (some ⟨w3.heap.size, 0, none⟩)) (by kernel_rfl) _ (fun w' hw' => by have c0 := (hw'.bl _ (.head _)).cell 0; go_simp)) hH2 ?_
                  refine wpAnyH_take (i := 9) (v := .agg #[.int .u64 9, .int .u64 0, .int .u64 0, .int .u64 0]) rfl (by kernel_rfl) (by kernel_rfl) (by kernel_rfl) (fun _ _ _ h => h) (yk_load (by kernel_rfl) _ _ rfl (.pointer (some ⟨V9.heap.size, 0, none⟩)) (by kernel_rfl) _ (fun w' hw' => by have c0 := (hw'.bl _ (.tail _ (.tail _ (.head _)))).cell 0; have c1 := (hw'.bl _ (.tail _ (.tail _ (.head _)))).cell 1; have c2 := (hw'.bl _ (.tail _ (.tail _ (.head _)))).cell 2; have c3 := (hw'.bl _ (.tail _ (.tail _ (.head _)))).cell 3; go_simp)) hH2 ?_
                  refine wpAnyH_ready (rs := [7]) (by kernel_rfl) (by simp) ?_
                  refine AllReadyH.cons rfl (fun K hK => ?_) AllReadyH.nil
                  go_simp
                  go_at_call 17
                  refine (all_any _ E1 _ (e_d.out.on hH2.hb) (by omega)).mono ?_
                  rintro e w7 ⟨v7, rfl, hown7, hd7⟩
                  have e7 := own_ents hown7
                  go_wp2_with fail
                  refine hK.out _ _ (hH2.on hd7) (fun hH3 => ?_)
                  clear hK K
                  refine wpAnyH_ready (rs := [8]) (by kernel_rfl) (by simp) ?_
                  refine AllReadyH.cons rfl (fun K hK => ?_) AllReadyH.nil
                  go_simp
                  go_at_call 25
                  refine (B2.out _ _ e7).mono ?_
                  rintro e w8 ⟨rfl, hd8⟩
                  go_wp2_with fail
                  refine hK.out _ _ (hH3.on hd8) (fun hH4 => ?_)
                  clear hK K
                  refine wpAnyH_take (i := 10) (v := .bool false) rfl (by kernel_rfl) (by kernel_rfl) (by kernel_rfl) (fun _ _ _ h => h) (yk_bin (by kernel_rfl) _ _ _ _ _ rfl (.agg #[.int .u64 9, .int .u64 0, .int .u64 0, .int .u64 0]) (.agg #[.int .u64 9, .int .u64 0, .int .u64 0, .int .u64 0]) (by kernel_rfl) (by kernel_rfl) _ (fun w' hw' => by have h0 := HE2.out w'; go_simp)) hH4 ?_
                  refine wpAnyH_take (i := 11) (v := .bool false) rfl (by kernel_rfl) (by kernel_rfl) (by kernel_rfl) (fun _ _ _ h => h) (yk_pick (by kernel_rfl) _ _ _ rfl false (by kernel_rfl) _ (by kernel_rfl)) hH4 ?_
                  refine wpAnyH_done (by kernel_rfl) ?_ _
                  have hbz := hH4.hb
                  replace k_d := k_d.on hbz
                  replace k_w := k_w.on hbz
                  replace e_d := Lib.hid (e_d.out.on hbz)
                  replace BB := BW_on BB hbz
                  clear hH0 hH1 hH2 hH3 hH4 hbz hd1 hd2 hd7 hd8 hown1 hown7 e1 e7 k_z
                  go_wp2_with fail
                  go_roundw
                  case rel => exact ⟨k + 1, a1, q1, c1, E1, by omega, by omega, by first | rfl | (rw [Hk3.out]; rfl), hE, by omega, e_d, k_d, k_w, BB⟩
                  case measure => simp [intOf]; omega
                · clear hes
                  have c_w := fun i => k_w.cell i
                  have c_n := fun i => k_n.cell i
                  go_wp2_with fail
                  refine (ssub_no a1 n (by omega) (by omega) _).mono ?_
                  rintro e wq7 ⟨rfl, hb⟩
                  clear c_w c_n
                  replace k_d := k_d.on hb
                  replace k_w := k_w.on hb
                  replace k_n := k_n.on hb
                  replace k_y := k_y.on hb
                  replace e_d := Lib.hid (e_d.out.on hb)
                  replace e_y := Lib.hid (e_y.out.on hb)
                  replace BB := BW_on BB hb
                  clear hb
                  replace k_d := k_d.on (BW_alloc (BW_refl _) (.cells #[.int .u64 0, .int .u64 0, .int .u64 0, .int .u64 0] 31))
                  replace k_w := k_w.on (BW_alloc (BW_refl _) (.cells #[.int .u64 0, .int .u64 0, .int .u64 0, .int .u64 0] 31))
                  replace k_n := k_n.on (BW_alloc (BW_refl _) (.cells #[.int .u64 0, .int .u64 0, .int .u64 0, .int .u64 0] 31))
                  replace k_y := k_y.on (BW_alloc (BW_refl _) (.cells #[.int .u64 0, .int .u64 0, .int .u64 0, .int .u64 0] 31))
                  replace e_d := Lib.hid (e_d.out.on (BW_alloc (BW_refl _) (.cells #[.int .u64 0, .int .u64 0, .int .u64 0, .int .u64 0] 31)))
                  replace e_y := Lib.hid (e_y.out.on (BW_alloc (BW_refl _) (.cells #[.int .u64 0, .int .u64 0, .int .u64 0, .int .u64 0] 31)))
                  replace BB := BW_on BB (BW_alloc (BW_refl _) (.cells #[.int .u64 0, .int .u64 0, .int .u64 0, .int .u64 0] 31))
                  have k_l := blk1 wq7 31 #[.int .u64 0, .int .u64 0, .int .u64 0, .int .u64 0]
                  have hlw : w3.heap.size + 1 < wq7.heap.size + 1 := by have := k_w.lt; simpa using this
                  have k_0 := blk2 wq7 (.cells #[.int .u64 0, .int .u64 0, .int .u64 0, .int .u64 0] 31) 31 #[.int .u64 0, .int .u64 0, .int .u64 0, .int .u64 0]
                  replace k_d := k_d.on (BW_alloc (BW_refl _) (.cells #[.int .u64 0, .int .u64 0, .int .u64 0, .int .u64 0] 31))
                  replace k_w := k_w.on (BW_alloc (BW_refl _) (.cells #[.int .u64 0, .int .u64 0, .int .u64 0, .int .u64 0] 31))
                  replace k_n := k_n.on (BW_alloc (BW_refl _) (.cells #[.int .u64 0, .int .u64 0, .int .u64 0, .int .u64 0] 31))
                  replace k_y := k_y.on (BW_alloc (BW_refl _) (.cells #[.int .u64 0, .int .u64 0, .int .u64 0, .int .u64 0] 31))
                  replace k_l := k_l.on (BW_alloc (BW_refl _) (.cells #[.int .u64 0, .int .u64 0, .int .u64 0, .int .u64 0] 31))
                  replace e_d := Lib.hid (e_d.out.on (BW_alloc (BW_refl _) (.cells #[.int .u64 0, .int .u64 0, .int .u64 0, .int .u64 0] 31)))
                  replace e_y := Lib.hid (e_y.out.on (BW_alloc (BW_refl _) (.cells #[.int .u64 0, .int .u64 0, .int .u64 0, .int .u64 0] 31)))
                  replace BB := BW_on BB (BW_alloc (BW_refl _) (.cells #[.int .u64 0, .int .u64 0, .int .u64 0, .int .u64 0] 31))
                  go_upto_region 29 with (fail)
                  change Code.wp _ _ _ _ ((wq7.alloc (.cells #[.int .u64 0, .int .u64 0, .int .u64 0, .int .u64 0] 31)).alloc (.cells #[.int .u64 0, .int .u64 0, .int .u64 0, .int .u64 0] 31))
                  generalize hV9 : ((wq7.alloc (.cells #[.int .u64 0, .int .u64 0, .int .u64 0, .int .u64 0] 31)).alloc (.cells #[.int .u64 0, .int .u64 0, .int .u64 0, .int .u64 0] 31)) = V9 at *
                  clear hV9
                  go_upto_region 30 with (fail)
                  change Code.wp _ _ _ _ (V9.alloc (.cells #[.int .u64 9, .int .u64 0, .int .u64 0, .int .u64 0] 31))
                  replace k_d := k_d.on (BW_alloc (BW_refl _) (.cells #[.int .u64 9, .int .u64 0, .int .u64 0, .int .u64 0] 31))
                  replace k_w := k_w.on (BW_alloc (BW_refl _) (.cells #[.int .u64 9, .int .u64 0, .int .u64 0, .int .u64 0] 31))
                  replace e_d := Lib.hid (e_d.out.on (BW_alloc (BW_refl _) (.cells #[.int .u64 9, .int .u64 0, .int .u64 0, .int .u64 0] 31)))
                  replace BB := BW_on BB (BW_alloc (BW_refl _) (.cells #[.int .u64 9, .int .u64 0, .int .u64 0, .int .u64 0] 31))
                  have k_z := blk1 V9 31 #[.int .u64 9, .int .u64 0, .int .u64 0, .int .u64 0]
                  have B1 := fun v w hv => r11bal_any v E1 t_esc1 t_x w hv (by omega) (by decide) (by decide)
                  rw [hE.out.esc, wv_small (n := a1) (by have := hE.out.le; omega)] at B1
                  replace B1 := Lib.hid B1
                  have B2 := fun v w hv => r11sup_any v E1 t_x w hv (by omega) (by decide)
                  rw [hE.out.tot, show wv 9 = .agg #[.int .u64 9, .int .u64 0, .int .u64 0, .int .u64 0] from wv_small (n := 9) (by decide)] at B2
                  replace B2 := Lib.hid B2
                  have HE1 := Lib.hid (fun w => eqW17 ((a1 : Nat) : Int) 0 0 0 w)
                  have HE2 := Lib.hid (fun w => eqW17 9 0 0 0 w)
                  generalize hVZ : V9.alloc (.cells #[.int .u64 9, .int .u64 0, .int .u64 0, .int .u64 0] 31) = VZ at *
                  clear hVZ
                  refine wp_region_held_drew (S := BxS VZ [(w3.heap.size, 27, #[.slice q1 E1.length c1]), ((w3.heap.size + 1), 31, #[.int .u64 ((a1 : Nat) : Int), .int .u64 0, .int .u64 0, .int .u64 0]), (V9.heap.size, 31, #[.int .u64 9, .int .u64 0, .int .u64 0, .int .u64 0])]) (by kernel_rfl) (((((BxS.nil (BW_refl VZ)).cons k_z).cons k_w).cons k_d)).drew (fun hH0 => ?_)
                  refine wpAnyH_take (i := 0) (v := .agg #[.slice q1 E1.length c1]) rfl (by kernel_rfl) (by kernel_rfl) (by kernel_rfl) (fun _ _ _ h => h) (yk_load (by kernel_rfl) _ _ rfl (.pointer (some ⟨w3.heap.size, 0, none⟩)) (by kernel_rfl) _ (fun w' hw' => by have c0 := (hw'.bl _ (.head _)).cell 0; go_simp)) hH0 ?_
                  refine wpAnyH_take (i := 3) (v := .agg #[.int .u64 ((a1 : Nat) : Int), .int .u64 0, .int .u64 0, .int .u64 0]) rfl (by kernel_rfl) (by kernel_rfl) (by kernel_rfl) (fun _ _ _ h => h) (yk_load (by kernel_rfl) _ _ rfl (.pointer (some ⟨(w3.heap.size + 1), 0, none⟩)) (by kernel_rfl) _ (fun w' hw' => by have c0 := (hw'.bl _ (.tail _ (.head _))).cell 0; have c1 := (hw'.bl _ (.tail _ (.head _))).cell 1; have c2 := (hw'.bl _ (.tail _ (.head _))).cell 2; have c3 := (hw'.bl _ (.tail _ (.head _))).cell 3; go_simp)) hH0 ?_
                  refine wpAnyH_ready (rs := [1]) (by kernel_rfl) (by simp) ?_
                  refine AllReadyH.cons rfl (fun K hK => ?_) AllReadyH.nil
                  go_simp
                  go_at_call 17
                  refine (all_any _ E1 _ (e_d.out.on hH0.hb) (by omega)).mono ?_
                  rintro e w1 ⟨v1, rfl, hown1, hd1⟩
                  have e1 := own_ents hown1
                  go_wp2_with fail
                  refine hK.out _ _ (hH0.on hd1) (fun hH1 => ?_)
                  clear hK K
                  refine wpAnyH_ready (rs := [2]) (by kernel_rfl) (by simp) ?_
                  refine AllReadyH.cons rfl (fun K hK => ?_) AllReadyH.nil
                  go_simp
                  go_at_call 24
                  refine (B1.out _ _ e1).mono ?_
                  rintro e w2 ⟨rfl, hd2⟩
                  go_wp2_with fail
                  refine hK.out _ _ (hH1.on hd2) (fun hH2 => ?_)
                  clear hK K
                  refine wpAnyH_take (i := 4) (v := .bool false) rfl (by kernel_rfl) (by kernel_rfl) (by kernel_rfl) (fun _ _ _ h => h) (yk_bin (by kernel_rfl) _ _ _ _ _ rfl (.agg #[.int .u64 ((a1 : Nat) : Int), .int .u64 0, .int .u64 0, .int .u64 0]) (.agg #[.int .u64 ((a1 : Nat) : Int), .int .u64 0, .int .u64 0, .int .u64 0]) (by kernel_rfl) (by kernel_rfl) _ (fun w' hw' => by have h0 := HE1.out w'; go_simp)) hH2 ?_
                  refine wpAnyH_take (i := 5) (v := .bool false) rfl (by kernel_rfl) (by kernel_rfl) (by kernel_rfl) (fun _ _ _ h => h) (yk_move (by kernel_rfl) _ rfl _ (by kernel_rfl)) hH2 ?_
                  refine wpAnyH_take (i := 6) (v := .agg #[.slice q1 E1.length c1]) rfl (by kernel_rfl) (by kernel_rfl) (by kernel_rfl) (fun _ _ _ h => h) (yk_load (by kernel_rfl) _ _ rfl (.pointer (some ⟨w3.heap.size, 0, none⟩)) (by kernel_rfl) _ (fun w' hw' => by have c0 := (hw'.bl _ (.head _)).cell 0; go_simp)) hH2 ?_
                  refine wpAnyH_take (i := 9) (v := .agg #[.int .u64 9, .int .u64 0, .int .u64 0, .int .u64 0]) rfl (by kernel_rfl) (by kernel_rfl) (by kernel_rfl) (fun _ _ _ h => h) (yk_load (by kernel_rfl) _ _ rfl (.pointer (some ⟨V9.heap.size, 0, none⟩)) (by kernel_rfl) _ (fun w' hw' => by have c0 := (hw'.bl _ (.tail _ (.tail _ (.head _)))).cell 0; have c1 := (hw'.bl _ (.tail _ (.tail _ (.head _)))).cell 1; have c2 := (hw'.bl _ (.tail _ (.tail _ (.head _)))).cell 2; have c3 := (hw'.bl _ (.tail _ (.tail _ (.head _)))).cell 3; go_simp)) hH2 ?_
                  refine wpAnyH_ready (rs := [7]) (by kernel_rfl) (by simp) ?_
                  refine AllReadyH.cons rfl (fun K hK => ?_) AllReadyH.nil
                  go_simp
                  go_at_call 17
                  refine (all_any _ E1 _ (e_d.out.on hH2.hb) (by omega)).mono ?_
                  rintro e w7 ⟨v7, rfl, hown7, hd7⟩
                  have e7 := own_ents hown7
                  go_wp2_with fail
                  refine hK.out _ _ (hH2.on hd7) (fun hH3 => ?_)
                  clear hK K
                  refine wpAnyH_ready (rs := [8]) (by kernel_rfl) (by simp) ?_
                  refine AllReadyH.cons rfl (fun K hK => ?_) AllReadyH.nil
                  go_simp
                  go_at_call 25
                  refine (B2.out _ _ e7).mono ?_
                  rintro e w8 ⟨rfl, hd8⟩
                  go_wp2_with fail
                  refine hK.out _ _ (hH3.on hd8) (fun hH4 => ?_)
                  clear hK K
                  refine wpAnyH_take (i := 10) (v := .bool false) rfl (by kernel_rfl) (by kernel_rfl) (by kernel_rfl) (fun _ _ _ h => h) (yk_bin (by kernel_rfl) _ _ _ _ _ rfl (.agg #[.int .u64 9, .int .u64 0, .int .u64 0, .int .u64 0]) (.agg #[.int .u64 9, .int .u64 0, .int .u64 0, .int .u64 0]) (by kernel_rfl) (by kernel_rfl) _ (fun w' hw' => by have h0 := HE2.out w'; go_simp)) hH4 ?_
                  refine wpAnyH_take (i := 11) (v := .bool false) rfl (by kernel_rfl) (by kernel_rfl) (by kernel_rfl) (fun _ _ _ h => h) (yk_pick (by kernel_rfl) _ _ _ rfl false (by kernel_rfl) _ (by kernel_rfl)) hH4 ?_
                  refine wpAnyH_done (by kernel_rfl) ?_ _
                  have hbz := hH4.hb
                  replace k_d := k_d.on hbz
                  replace k_w := k_w.on hbz
                  replace e_d := Lib.hid (e_d.out.on hbz)
                  replace BB := BW_on BB hbz
                  clear hH0 hH1 hH2 hH3 hH4 hbz hd1 hd2 hd7 hd8 hown1 hown7 e1 e7 k_z
                  go_wp2_with fail
                  go_roundw
                  case rel => exact ⟨k + 1, a1, q1, c1, E1, by omega, by omega, by first | rfl | (rw [Hk3.out]; rfl), hE, by omega, e_d, k_d, k_w, BB⟩
                  case measure => simp [intOf]; omega
            · clear hrf
              go_upto_region 30 with (fail)
              change Code.wp _ _ _ _ (wc.alloc (.cells #[.int .u64 9, .int .u64 0, .int .u64 0, .int .u64 0] 31))
              replace k_d := k_d.on (BW_alloc (BW_refl _) (.cells #[.int .u64 9, .int .u64 0, .int .u64 0, .int .u64 0] 31))
              replace k_w := k_w.on (BW_alloc (BW_refl _) (.cells #[.int .u64 9, .int .u64 0, .int .u64 0, .int .u64 0] 31))
              replace e_d := Lib.hid (e_d.out.on (BW_alloc (BW_refl _) (.cells #[.int .u64 9, .int .u64 0, .int .u64 0, .int .u64 0] 31)))
              replace BB := BW_on BB (BW_alloc (BW_refl _) (.cells #[.int .u64 9, .int .u64 0, .int .u64 0, .int .u64 0] 31))
              have k_z := blk1 wc 31 #[.int .u64 9, .int .u64 0, .int .u64 0, .int .u64 0]
              have B1 := fun v w hv => r11bal_any v E1 t_esc1 t_x w hv (by omega) (by decide) (by decide)
              rw [hE.out.esc, wv_small (n := a1) (by have := hE.out.le; omega)] at B1
              replace B1 := Lib.hid B1
              have B2 := fun v w hv => r11sup_any v E1 t_x w hv (by omega) (by decide)
              rw [hE.out.tot, show wv 9 = .agg #[.int .u64 9, .int .u64 0, .int .u64 0, .int .u64 0] from wv_small (n := 9) (by decide)] at B2
              replace B2 := Lib.hid B2
              have HE1 := Lib.hid (fun w => eqW17 ((a1 : Nat) : Int) 0 0 0 w)
              have HE2 := Lib.hid (fun w => eqW17 9 0 0 0 w)
              generalize hVZ : wc.alloc (.cells #[.int .u64 9, .int .u64 0, .int .u64 0, .int .u64 0] 31) = VZ at *
              clear hVZ
              refine wp_region_held_drew (S := BxS VZ [(w3.heap.size, 27, #[.slice q1 E1.length c1]), ((w3.heap.size + 1), 31, #[.int .u64 ((a1 : Nat) : Int), .int .u64 0, .int .u64 0, .int .u64 0]), (wc.heap.size, 31, #[.int .u64 9, .int .u64 0, .int .u64 0, .int .u64 0])]) (by kernel_rfl) (((((BxS.nil (BW_refl VZ)).cons k_z).cons k_w).cons k_d)).drew (fun hH0 => ?_)
              refine wpAnyH_take (i := 0) (v := .agg #[.slice q1 E1.length c1]) rfl (by kernel_rfl) (by kernel_rfl) (by kernel_rfl) (fun _ _ _ h => h) (yk_load (by kernel_rfl) _ _ rfl (.pointer (some ⟨w3.heap.size, 0, none⟩)) (by kernel_rfl) _ (fun w' hw' => by have c0 := (hw'.bl _ (.head _)).cell 0; go_simp)) hH0 ?_
              refine wpAnyH_take (i := 3) (v := .agg #[.int .u64 ((a1 : Nat) : Int), .int .u64 0, .int .u64 0, .int .u64 0]) rfl (by kernel_rfl) (by kernel_rfl) (by kernel_rfl) (fun _ _ _ h => h) (yk_load (by kernel_rfl) _ _ rfl (.pointer (some ⟨(w3.heap.size + 1), 0, none⟩)) (by kernel_rfl) _ (fun w' hw' => by have c0 := (hw'.bl _ (.tail _ (.head _))).cell 0; have c1 := (hw'.bl _ (.tail _ (.head _))).cell 1; have c2 := (hw'.bl _ (.tail _ (.head _))).cell 2; have c3 := (hw'.bl _ (.tail _ (.head _))).cell 3; go_simp)) hH0 ?_
              refine wpAnyH_ready (rs := [1]) (by kernel_rfl) (by simp) ?_
              refine AllReadyH.cons rfl (fun K hK => ?_) AllReadyH.nil
              go_simp
              go_at_call 17
              refine (all_any _ E1 _ (e_d.out.on hH0.hb) (by omega)).mono ?_
              rintro e w1 ⟨v1, rfl, hown1, hd1⟩
              have e1 := own_ents hown1
              go_wp2_with fail
              refine hK.out _ _ (hH0.on hd1) (fun hH1 => ?_)
              clear hK K
              refine wpAnyH_ready (rs := [2]) (by kernel_rfl) (by simp) ?_
              refine AllReadyH.cons rfl (fun K hK => ?_) AllReadyH.nil
              go_simp
              go_at_call 24
              refine (B1.out _ _ e1).mono ?_
              rintro e w2 ⟨rfl, hd2⟩
              go_wp2_with fail
              refine hK.out _ _ (hH1.on hd2) (fun hH2 => ?_)
              clear hK K
              refine wpAnyH_take (i := 4) (v := .bool false) rfl (by kernel_rfl) (by kernel_rfl) (by kernel_rfl) (fun _ _ _ h => h) (yk_bin (by kernel_rfl) _ _ _ _ _ rfl (.agg #[.int .u64 ((a1 : Nat) : Int), .int .u64 0, .int .u64 0, .int .u64 0]) (.agg #[.int .u64 ((a1 : Nat) : Int), .int .u64 0, .int .u64 0, .int .u64 0]) (by kernel_rfl) (by kernel_rfl) _ (fun w' hw' => by have h0 := HE1.out w'; go_simp)) hH2 ?_
              refine wpAnyH_take (i := 5) (v := .bool false) rfl (by kernel_rfl) (by kernel_rfl) (by kernel_rfl) (fun _ _ _ h => h) (yk_move (by kernel_rfl) _ rfl _ (by kernel_rfl)) hH2 ?_
              refine wpAnyH_take (i := 6) (v := .agg #[.slice q1 E1.length c1]) rfl (by kernel_rfl) (by kernel_rfl) (by kernel_rfl) (fun _ _ _ h => h) (yk_load (by kernel_rfl) _ _ rfl (.pointer (some ⟨w3.heap.size, 0, none⟩)) (by kernel_rfl) _ (fun w' hw' => by have c0 := (hw'.bl _ (.head _)).cell 0; go_simp)) hH2 ?_
              refine wpAnyH_take (i := 9) (v := .agg #[.int .u64 9, .int .u64 0, .int .u64 0, .int .u64 0]) rfl (by kernel_rfl) (by kernel_rfl) (by kernel_rfl) (fun _ _ _ h => h) (yk_load (by kernel_rfl) _ _ rfl (.pointer (some ⟨wc.heap.size, 0, none⟩)) (by kernel_rfl) _ (fun w' hw' => by have c0 := (hw'.bl _ (.tail _ (.tail _ (.head _)))).cell 0; have c1 := (hw'.bl _ (.tail _ (.tail _ (.head _)))).cell 1; have c2 := (hw'.bl _ (.tail _ (.tail _ (.head _)))).cell 2; have c3 := (hw'.bl _ (.tail _ (.tail _ (.head _)))).cell 3; go_simp)) hH2 ?_
              refine wpAnyH_ready (rs := [7]) (by kernel_rfl) (by simp) ?_
              refine AllReadyH.cons rfl (fun K hK => ?_) AllReadyH.nil
              go_simp
              go_at_call 17
              refine (all_any _ E1 _ (e_d.out.on hH2.hb) (by omega)).mono ?_
              rintro e w7 ⟨v7, rfl, hown7, hd7⟩
              have e7 := own_ents hown7
              go_wp2_with fail
              refine hK.out _ _ (hH2.on hd7) (fun hH3 => ?_)
              clear hK K
              refine wpAnyH_ready (rs := [8]) (by kernel_rfl) (by simp) ?_
              refine AllReadyH.cons rfl (fun K hK => ?_) AllReadyH.nil
              go_simp
              go_at_call 25
              refine (B2.out _ _ e7).mono ?_
              rintro e w8 ⟨rfl, hd8⟩
              go_wp2_with fail
              refine hK.out _ _ (hH3.on hd8) (fun hH4 => ?_)
              clear hK K
              refine wpAnyH_take (i := 10) (v := .bool false) rfl (by kernel_rfl) (by kernel_rfl) (by kernel_rfl) (fun _ _ _ h => h) (yk_bin (by kernel_rfl) _ _ _ _ _ rfl (.agg #[.int .u64 9, .int .u64 0, .int .u64 0, .int .u64 0]) (.agg #[.int .u64 9, .int .u64 0, .int .u64 0, .int .u64 0]) (by kernel_rfl) (by kernel_rfl) _ (fun w' hw' => by have h0 := HE2.out w'; go_simp)) hH4 ?_
              refine wpAnyH_take (i := 11) (v := .bool false) rfl (by kernel_rfl) (by kernel_rfl) (by kernel_rfl) (fun _ _ _ h => h) (yk_pick (by kernel_rfl) _ _ _ rfl false (by kernel_rfl) _ (by kernel_rfl)) hH4 ?_
              refine wpAnyH_done (by kernel_rfl) ?_ _
              have hbz := hH4.hb
              replace k_d := k_d.on hbz
              replace k_w := k_w.on hbz
              replace e_d := Lib.hid (e_d.out.on hbz)
              replace BB := BW_on BB hbz
              clear hH0 hH1 hH2 hH3 hH4 hbz hd1 hd2 hd7 hd8 hown1 hown7 e1 e7 k_z
              go_wp2_with fail
              go_roundw
              case rel => exact ⟨k + 1, a1, q1, c1, E1, by omega, by omega, by first | rfl | (rw [Hk3.out]; rfl), hE, by omega, e_d, k_d, k_w, BB⟩
              case measure => simp [intOf]; omega
        · have hb3 : ¬ (k : Int) < (M.length : Int) := by omega
          clear hbk hrf
          go_upto_region 30 with (fail)
          change Code.wp _ _ _ _ (wc.alloc (.cells #[.int .u64 9, .int .u64 0, .int .u64 0, .int .u64 0] 31))
          replace k_d := k_d.on (BW_alloc (BW_refl _) (.cells #[.int .u64 9, .int .u64 0, .int .u64 0, .int .u64 0] 31))
          replace k_w := k_w.on (BW_alloc (BW_refl _) (.cells #[.int .u64 9, .int .u64 0, .int .u64 0, .int .u64 0] 31))
          replace e_d := Lib.hid (e_d.out.on (BW_alloc (BW_refl _) (.cells #[.int .u64 9, .int .u64 0, .int .u64 0, .int .u64 0] 31)))
          replace BB := BW_on BB (BW_alloc (BW_refl _) (.cells #[.int .u64 9, .int .u64 0, .int .u64 0, .int .u64 0] 31))
          have k_z := blk1 wc 31 #[.int .u64 9, .int .u64 0, .int .u64 0, .int .u64 0]
          have B1 := fun v w hv => r11bal_any v E1 t_esc1 t_x w hv (by omega) (by decide) (by decide)
          rw [hE.out.esc, wv_small (n := a1) (by have := hE.out.le; omega)] at B1
          replace B1 := Lib.hid B1
          have B2 := fun v w hv => r11sup_any v E1 t_x w hv (by omega) (by decide)
          rw [hE.out.tot, show wv 9 = .agg #[.int .u64 9, .int .u64 0, .int .u64 0, .int .u64 0] from wv_small (n := 9) (by decide)] at B2
          replace B2 := Lib.hid B2
          have HE1 := Lib.hid (fun w => eqW17 ((a1 : Nat) : Int) 0 0 0 w)
          have HE2 := Lib.hid (fun w => eqW17 9 0 0 0 w)
          generalize hVZ : wc.alloc (.cells #[.int .u64 9, .int .u64 0, .int .u64 0, .int .u64 0] 31) = VZ at *
          clear hVZ
          refine wp_region_held_drew (S := BxS VZ [(w3.heap.size, 27, #[.slice q1 E1.length c1]), ((w3.heap.size + 1), 31, #[.int .u64 ((a1 : Nat) : Int), .int .u64 0, .int .u64 0, .int .u64 0]), (wc.heap.size, 31, #[.int .u64 9, .int .u64 0, .int .u64 0, .int .u64 0])]) (by kernel_rfl) (((((BxS.nil (BW_refl VZ)).cons k_z).cons k_w).cons k_d)).drew (fun hH0 => ?_)
          refine wpAnyH_take (i := 0) (v := .agg #[.slice q1 E1.length c1]) rfl (by kernel_rfl) (by kernel_rfl) (by kernel_rfl) (fun _ _ _ h => h) (yk_load (by kernel_rfl) _ _ rfl (.pointer (some ⟨w3.heap.size, 0, none⟩)) (by kernel_rfl) _ (fun w' hw' => by have c0 := (hw'.bl _ (.head _)).cell 0; go_simp)) hH0 ?_
          refine wpAnyH_take (i := 3) (v := .agg #[.int .u64 ((a1 : Nat) : Int), .int .u64 0, .int .u64 0, .int .u64 0]) rfl (by kernel_rfl) (by kernel_rfl) (by kernel_rfl) (fun _ _ _ h => h) (yk_load (by kernel_rfl) _ _ rfl (.pointer (some ⟨(w3.heap.size + 1), 0, none⟩)) (by kernel_rfl) _ (fun w' hw' => by have c0 := (hw'.bl _ (.tail _ (.head _))).cell 0; have c1 := (hw'.bl _ (.tail _ (.head _))).cell 1; have c2 := (hw'.bl _ (.tail _ (.head _))).cell 2; have c3 := (hw'.bl _ (.tail _ (.head _))).cell 3; go_simp)) hH0 ?_
          refine wpAnyH_ready (rs := [1]) (by kernel_rfl) (by simp) ?_
          refine AllReadyH.cons rfl (fun K hK => ?_) AllReadyH.nil
          go_simp
          go_at_call 17
          refine (all_any _ E1 _ (e_d.out.on hH0.hb) (by omega)).mono ?_
          rintro e w1 ⟨v1, rfl, hown1, hd1⟩
          have e1 := own_ents hown1
          go_wp2_with fail
          refine hK.out _ _ (hH0.on hd1) (fun hH1 => ?_)
          clear hK K
          refine wpAnyH_ready (rs := [2]) (by kernel_rfl) (by simp) ?_
          refine AllReadyH.cons rfl (fun K hK => ?_) AllReadyH.nil
          go_simp
          go_at_call 24
          refine (B1.out _ _ e1).mono ?_
          rintro e w2 ⟨rfl, hd2⟩
          go_wp2_with fail
          refine hK.out _ _ (hH1.on hd2) (fun hH2 => ?_)
          clear hK K
          refine wpAnyH_take (i := 4) (v := .bool false) rfl (by kernel_rfl) (by kernel_rfl) (by kernel_rfl) (fun _ _ _ h => h) (yk_bin (by kernel_rfl) _ _ _ _ _ rfl (.agg #[.int .u64 ((a1 : Nat) : Int), .int .u64 0, .int .u64 0, .int .u64 0]) (.agg #[.int .u64 ((a1 : Nat) : Int), .int .u64 0, .int .u64 0, .int .u64 0]) (by kernel_rfl) (by kernel_rfl) _ (fun w' hw' => by have h0 := HE1.out w'; go_simp)) hH2 ?_
          refine wpAnyH_take (i := 5) (v := .bool false) rfl (by kernel_rfl) (by kernel_rfl) (by kernel_rfl) (fun _ _ _ h => h) (yk_move (by kernel_rfl) _ rfl _ (by kernel_rfl)) hH2 ?_
          refine wpAnyH_take (i := 6) (v := .agg #[.slice q1 E1.length c1]) rfl (by kernel_rfl) (by kernel_rfl) (by kernel_rfl) (fun _ _ _ h => h) (yk_load (by kernel_rfl) _ _ rfl (.pointer (some ⟨w3.heap.size, 0, none⟩)) (by kernel_rfl) _ (fun w' hw' => by have c0 := (hw'.bl _ (.head _)).cell 0; go_simp)) hH2 ?_
          refine wpAnyH_take (i := 9) (v := .agg #[.int .u64 9, .int .u64 0, .int .u64 0, .int .u64 0]) rfl (by kernel_rfl) (by kernel_rfl) (by kernel_rfl) (fun _ _ _ h => h) (yk_load (by kernel_rfl) _ _ rfl (.pointer (some ⟨wc.heap.size, 0, none⟩)) (by kernel_rfl) _ (fun w' hw' => by have c0 := (hw'.bl _ (.tail _ (.tail _ (.head _)))).cell 0; have c1 := (hw'.bl _ (.tail _ (.tail _ (.head _)))).cell 1; have c2 := (hw'.bl _ (.tail _ (.tail _ (.head _)))).cell 2; have c3 := (hw'.bl _ (.tail _ (.tail _ (.head _)))).cell 3; go_simp)) hH2 ?_
          refine wpAnyH_ready (rs := [7]) (by kernel_rfl) (by simp) ?_
          refine AllReadyH.cons rfl (fun K hK => ?_) AllReadyH.nil
          go_simp
          go_at_call 17
          refine (all_any _ E1 _ (e_d.out.on hH2.hb) (by omega)).mono ?_
          rintro e w7 ⟨v7, rfl, hown7, hd7⟩
          have e7 := own_ents hown7
          go_wp2_with fail
          refine hK.out _ _ (hH2.on hd7) (fun hH3 => ?_)
          clear hK K
          refine wpAnyH_ready (rs := [8]) (by kernel_rfl) (by simp) ?_
          refine AllReadyH.cons rfl (fun K hK => ?_) AllReadyH.nil
          go_simp
          go_at_call 25
          refine (B2.out _ _ e7).mono ?_
          rintro e w8 ⟨rfl, hd8⟩
          go_wp2_with fail
          refine hK.out _ _ (hH3.on hd8) (fun hH4 => ?_)
          clear hK K
          refine wpAnyH_take (i := 10) (v := .bool false) rfl (by kernel_rfl) (by kernel_rfl) (by kernel_rfl) (fun _ _ _ h => h) (yk_bin (by kernel_rfl) _ _ _ _ _ rfl (.agg #[.int .u64 9, .int .u64 0, .int .u64 0, .int .u64 0]) (.agg #[.int .u64 9, .int .u64 0, .int .u64 0, .int .u64 0]) (by kernel_rfl) (by kernel_rfl) _ (fun w' hw' => by have h0 := HE2.out w'; go_simp)) hH4 ?_
          refine wpAnyH_take (i := 11) (v := .bool false) rfl (by kernel_rfl) (by kernel_rfl) (by kernel_rfl) (fun _ _ _ h => h) (yk_pick (by kernel_rfl) _ _ _ rfl false (by kernel_rfl) _ (by kernel_rfl)) hH4 ?_
          refine wpAnyH_done (by kernel_rfl) ?_ _
          have hbz := hH4.hb
          replace k_d := k_d.on hbz
          replace k_w := k_w.on hbz
          replace e_d := Lib.hid (e_d.out.on hbz)
          replace BB := BW_on BB hbz
          clear hH0 hH1 hH2 hH3 hH4 hbz hd1 hd2 hd7 hd8 hown1 hown7 e1 e7 k_z
          go_wp2_with fail
          go_roundw
          case rel => exact ⟨k + 1, a1, q1, c1, E1, by omega, by omega, by first | rfl | (rw [Hk3.out]; rfl), hE, by omega, e_d, k_d, k_w, BB⟩
          case measure => simp [intOf]; omega
    · have hout : ¬ ((k : Int) < (L.length : Int)) ∨ (k = 20 ∧ (k : Int) < (L.length : Int)) := by omega
      clear hlt hk hl
      rcases hout with hk1 | ⟨rfl, hk1⟩
      · go_wp2_with fail
        refine (HZ.out _).mono ?_
        rintro e w4 ⟨rfl, hb⟩
        replace BB := BW_on BB hb
        clear hb
        go_wp2_with fail
        go_ret
        exact ⟨rfl, BB⟩
      · go_wp2_with fail
        refine (HZ.out _).mono ?_
        rintro e w4 ⟨rfl, hb⟩
        replace BB := BW_on BB hb
        clear hb
        go_wp2_with fail
        go_ret
        exact ⟨rfl, BB⟩
end Go.Proofs.YtpcdgljcpacpiaaGreatDoor

/- The law TransferApart's walk: what goes over one channel changes nothing in escrow of another one. -/
import Derived.Test.YtiaflghhfcnjlaaGreatDoorUd
set_option maxRecDepth 20000
namespace Go.Proofs.YtiaflghhfcnjlaaGreatDoor
open Go.RowKit
attribute [local go_sem ↓] Go.wp_at_zero Go.wp_at_succ
def t_c7 : ByteArray := ⟨#[99, 55]⟩
def t_c7x : ByteArray := ⟨#[99, 55, 47, 120]⟩
def t_cat : ByteArray := ⟨#[99, 97, 116]⟩
def t_esc2 : ByteArray := ⟨#[101, 115, 99, 114, 111, 119, 47, 99, 50]⟩
theorem sel_inv {E : List Ent} {ok home : Bool} {r1 r2 : Int × List Ent} (h1 : Srt r1.2 ∧ r1.2.length ≤ E.length + 2) (h2 : Srt r2.2 ∧ r2.2.length ≤ E.length + 2) : Srt (sel17 ok home r1 r2).2 ∧ (sel17 ok home r1 r2).2.length ≤ E.length + 2 := by
  unfold sel17
  split
  · split
    · exact h1
    · exact h2
  · exact ⟨List.Pairwise.nil, Nat.zero_le _⟩
theorem send_inv {E : List Ent} (hs : Srt E) (sq ht tm : Int) (s k d f g : ByteArray) (n : Nat) : Srt (sendL E sq ht tm s k d f g n).2 ∧ (sendL E sq ht tm s k d f g n).2.length ≤ E.length + 2 := sel_inv (burn_inv hs _ _ _) (move_inv hs _ _ _ _)
theorem recv_inv {E : List Ent} (hs : Srt E) (sq ht tm : Int) (s k d f g : ByteArray) (n : Nat) : Srt (recvL E sq ht tm s k d f g n).2 ∧ (recvL E sq ht tm s k d f g n).2.length ≤ E.length + 2 := by
  unfold recvL
  split
  · exact sel_inv (move_inv hs _ _ _ _) (mint_inv hs _ _ _)
  · exact ⟨List.Pairwise.nil, Nat.zero_le _⟩
theorem refund_inv {E : List Ent} (hs : Srt E) (sq ht tm : Int) (s k d f g : ByteArray) (n : Nat) : Srt (refundL E sq ht tm s k d f g n).2 ∧ (refundL E sq ht tm s k d f g n).2.length ≤ E.length + 2 := sel_inv (mint_inv hs _ _ _) (move_inv hs _ _ _ _)
def apA (a : Nat) : List Ent := (sendL S17 1 9 0 t_c1 t_c7 t_x t_ann t_bob a).2
def apB (a b : Nat) : List Ent := (sendL (apA a) 1 9 0 t_c2 t_c7 t_x t_ann t_bob b).2
def apC (a b : Nat) : List Ent := (recvL (apB a b) 1 9 0 t_c7 t_c2 t_c7x t_bob t_cat b).2
theorem ap_1 : ∀ a : Fin 4, (sendL S17 1 9 0 t_c1 t_c7 t_x t_ann t_bob (a.val + 1)).1 = 0 := by decide +kernel
theorem ap_2 : ∀ a b : Fin 4, (sendL (apA (a.val + 1)) 1 9 0 t_c2 t_c7 t_x t_ann t_bob (b.val + 1)).1 = 0 := by decide +kernel
theorem ap_3 : ∀ a b : Fin 4, (recvL (apB (a.val + 1) (b.val + 1)) 1 9 0 t_c7 t_c2 t_c7x t_bob t_cat (b.val + 1)).1 = 0 := by decide +kernel
theorem ap_4 : ∀ a b : Fin 4, recvL (apC (a.val + 1) (b.val + 1)) 1 9 0 t_c7 t_c2 t_c7x t_bob t_cat (b.val + 1) = (16, []) := by decide +kernel
theorem ap_5 : ∀ a b : Fin 4, ng (apC (a.val + 1) (b.val + 1)) (keyB t_esc1 t_x) = a.val + 1 ∧ ng (apC (a.val + 1) (b.val + 1)) (keyB t_esc2 t_x) = 0 ∧ ng (apC (a.val + 1) (b.val + 1)) (keyB t_cat t_x) = b.val + 1 := by decide +kernel
theorem one_small4 (x : Int) : ∃ a : Fin 4, IntKind.u64.wrap (1 + bits .and .u64 x 3) = ((a.val + 1 : Nat) : Int) := by
  have e2 : (BitVec.ofInt 64 3).toNat = 3 := by decide
  have h : (BitVec.ofInt 64 x &&& BitVec.ofInt 64 3).toNat ≤ 3 := by
    rw [BitVec.toNat_and, e2]
    exact Nat.and_le_right
  have e : bits .and .u64 x 3 = IntKind.u64.wrap (((BitVec.ofInt 64 x &&& BitVec.ofInt 64 3).toNat : Nat) : Int) := rfl
  refine ⟨⟨(BitVec.ofInt 64 x &&& BitVec.ofInt 64 3).toNat, by omega⟩, ?_⟩
  show IntKind.u64.wrap (1 + bits .and .u64 x 3) = (((BitVec.ofInt 64 x &&& BitVec.ofInt 64 3).toNat + 1 : Nat) : Int)
  rw [e, IntKind.wrap_u64, IntKind.wrap_u64]
  omega
theorem eqW17 (a b c d : Int) (w : World) : (Op.equalIn 10000 30 (.agg #[.int .u64 a, .int .u64 b, .int .u64 c, .int .u64 d]) (.agg #[.int .u64 a, .int .u64 b, .int .u64 c, .int .u64 d])).run Tryz.prog w = .ok true w := by
  have u3 := Tryz.underlying22
  have a3 := Tryz.isAgg22
  have z3 := Tryz.sizeOf22
  rw [show (10000 : Nat) = 9999 + 1 from rfl, Op.equalIn]
  simp only [Sem.run_bind, run_underlying Tryz.underlying30, Result.andThen_ok]
  simp only [Std.Legacy.Range.forIn_eq_forIn_range', Std.Legacy.Range.size, Nat.sub_zero, Nat.add_sub_cancel, Nat.div_one, List.range'_succ, List.range'_zero, List.forIn_cons, List.forIn_nil]
  go_simp
set_option maxHeartbeats 16000000 in
set_option maxRecDepth 100000 in
theorem l17apart_any (n m : Int) (w : World) : Calls Tryz.prog 3 #[.int .u64 n, .int .u64 m] w fun e w' => e = .returned (.bool true) ∧ Below w.heap.size w w' := by
  obtain ⟨ia, ea⟩ := one_small4 n
  obtain ⟨ib, eb⟩ := one_small4 m
  have f1 := ap_1 ia
  have f2 := ap_2 ia ib
  have f3 := ap_3 ia ib
  have f4 := ap_4 ia ib
  obtain ⟨f5, f6, f7⟩ := ap_5 ia ib
  have la : ia.val + 1 ≤ 4 := by omega
  have lb : ib.val + 1 ≤ 4 := by omega
  generalize ia.val + 1 = a at *
  generalize ib.val + 1 = b at *
  have sA := send_inv S17_srt 1 9 0 t_c1 t_c7 t_x t_ann t_bob a
  have sB := send_inv sA.1 1 9 0 t_c2 t_c7 t_x t_ann t_bob b
  have sC := recv_inv sB.1 1 9 0 t_c7 t_c2 t_c7x t_bob t_cat b
  have hSl := S17_len
  have zA : (apA a).length ≤ 100 := by have : (apA a).length ≤ S17.length + 2 := sA.2; omega
  have zB : (apB a b).length ≤ 102 := by have : (apB a b).length ≤ (apA a).length + 2 := sB.2; omega
  have zC : (apC a b).length ≤ 104 := by have : (apC a b).length ≤ (apB a b).length + 2 := sC.2; omega
  have rA : Srt (apA a) := sA.1
  have rB : Srt (apB a b) := sB.1
  have rC : Srt (apC a b) := sC.1
  clear sA sB sC
  have HA := fun v w hv => send_any v S17 1 9 0 t_c1 t_c7 t_x t_ann t_bob a w hv S17_srt (by have := hSl; omega) (by decide) (by decide) (by decide) (by decide) (by decide) (W256.small (by omega))
  rw [show sendL S17 1 9 0 t_c1 t_c7 t_x t_ann t_bob a = (0, apA a) from Prod.ext f1 rfl, (limb_small (n := a) (by omega)).1, (limb_small (n := a) (by omega)).2.1, (limb_small (n := a) (by omega)).2.2.1, (limb_small (n := a) (by omega)).2.2.2] at HA
  replace HA := Lib.hid HA
  have HB := fun v w hv => send_any v (apA a) 1 9 0 t_c2 t_c7 t_x t_ann t_bob b w hv rA (by have := zA; omega) (by decide) (by decide) (by decide) (by decide) (by decide) (W256.small (by omega))
  rw [show sendL (apA a) 1 9 0 t_c2 t_c7 t_x t_ann t_bob b = (0, apB a b) from Prod.ext f2 rfl, (limb_small (n := b) (by omega)).1, (limb_small (n := b) (by omega)).2.1, (limb_small (n := b) (by omega)).2.2.1, (limb_small (n := b) (by omega)).2.2.2] at HB
  replace HB := Lib.hid HB
  have HC := fun v w hv => recv_any v (apB a b) 1 9 0 t_c7 t_c2 t_c7x t_bob t_cat b w hv rB (by have := zB; omega) (by decide) (by decide) (by decide) (by decide) (by decide) (W256.small (by omega))
  rw [show recvL (apB a b) 1 9 0 t_c7 t_c2 t_c7x t_bob t_cat b = (0, apC a b) from Prod.ext f3 rfl, (limb_small (n := b) (by omega)).1, (limb_small (n := b) (by omega)).2.1, (limb_small (n := b) (by omega)).2.2.1, (limb_small (n := b) (by omega)).2.2.2] at HC
  replace HC := Lib.hid HC
  have HD := fun v w hv => recv_any v (apC a b) 1 9 0 t_c7 t_c2 t_c7x t_bob t_cat b w hv rC (by have := zC; omega) (by decide) (by decide) (by decide) (by decide) (by decide) (W256.small (by omega))
  rw [f4, (limb_small (n := b) (by omega)).1, (limb_small (n := b) (by omega)).2.1, (limb_small (n := b) (by omega)).2.2.1, (limb_small (n := b) (by omega)).2.2.2] at HD
  replace HD := Lib.hid HD
  have HO := fun v w hv => of_any v S17 w hv (by omega)
  rw [st_of] at HO
  replace HO := Lib.hid HO
  have B1 := fun v w hv => r11bal_any v (apC a b) t_esc1 t_x w hv (by omega) (by decide) (by decide)
  rw [f5, wv_small (n := a) (by omega)] at B1
  have B2 := fun v w hv => r11bal_any v (apC a b) t_esc2 t_x w hv (by omega) (by decide) (by decide)
  rw [f6, show wv 0 = .agg #[.int .u64 0, .int .u64 0, .int .u64 0, .int .u64 0] from wv_small (n := 0) (by decide)] at B2
  have B3 := fun v w hv => r11bal_any v (apC a b) t_cat t_x w hv (by omega) (by decide) (by decide)
  rw [f7, wv_small (n := b) (by omega)] at B3
  replace B1 := Lib.hid B1
  replace B2 := Lib.hid B2
  replace B3 := Lib.hid B3
  have HEA := Lib.hid (fun w => eqW17 (a : Int) 0 0 0 w)
  have HEB := Lib.hid (fun w => eqW17 (b : Int) 0 0 0 w)
  clear f1 f2 f3 f4 f5 f6 f7 la lb hSl rA rB rC
  generalize apC a b = C at *
  generalize apB a b = B at *
  generalize apA a = A at *
  go_enter Tryz.func3, Tryz.ntmps3
  go_wp2_with fail
  refine (awake17_any _).mono ?_
  rintro e w0 ⟨rfl, BB⟩
  go_wp2_with fail
  refine (start17_any _).mono ?_
  rintro e w1 ⟨vs, rfl, hst, hb⟩
  replace BB := BW_on BB hb
  have e_s := Lib.hid hst
  clear hst hb
  go_wp2_with fail
  refine (HO.out _ _ e_s.out).mono ?_
  rintro e w2 ⟨vd, rfl, hd, hb⟩
  replace BB := BW_on BB hb
  obtain ⟨q0, c0, rfl⟩ := hd.len
  have e_d := Lib.hid hd
  clear hd hb e_s HO
  replace e_d := Lib.hid (e_d.out.on (BW_alloc (BW_refl _) (.cells #[.slice q0 S17.length c0] 26)))
  replace BB := BW_on BB (BW_alloc (BW_refl _) (.cells #[.slice q0 S17.length c0] 26))
  have k_d := blk1 w2 26 #[.slice q0 S17.length c0]
  have k_p := blk2 w2 (.cells #[.slice q0 S17.length c0] 26) 34 #[.int .i64 1, .string t_c1, .string t_c7, .string t_x, .int .u64 (a : Int), .int .u64 0, .int .u64 0, .int .u64 0, .string t_ann, .string t_bob, .int .i64 9, .int .i64 0]
  replace k_d := k_d.on (BW_alloc (BW_refl _) (.cells #[.int .i64 1, .string t_c1, .string t_c7, .string t_x, .int .u64 (a : Int), .int .u64 0, .int .u64 0, .int .u64 0, .string t_ann, .string t_bob, .int .i64 9, .int .i64 0] 34))
  replace e_d := Lib.hid (e_d.out.on (BW_alloc (BW_refl _) (.cells #[.int .i64 1, .string t_c1, .string t_c7, .string t_x, .int .u64 (a : Int), .int .u64 0, .int .u64 0, .int .u64 0, .string t_ann, .string t_bob, .int .i64 9, .int .i64 0] 34)))
  replace BB := BW_on BB (BW_alloc (BW_refl _) (.cells #[.int .i64 1, .string t_c1, .string t_c7, .string t_x, .int .u64 (a : Int), .int .u64 0, .int .u64 0, .int .u64 0, .string t_ann, .string t_bob, .int .i64 9, .int .i64 0] 34))
  replace k_d := k_d.on (BW_alloc (BW_refl _) (.cells #[.int .i64 1, .string t_c2, .string t_c7, .string t_x, .int .u64 (b : Int), .int .u64 0, .int .u64 0, .int .u64 0, .string t_ann, .string t_bob, .int .i64 9, .int .i64 0] 34))
  replace k_p := k_p.on (BW_alloc (BW_refl _) (.cells #[.int .i64 1, .string t_c2, .string t_c7, .string t_x, .int .u64 (b : Int), .int .u64 0, .int .u64 0, .int .u64 0, .string t_ann, .string t_bob, .int .i64 9, .int .i64 0] 34))
  replace e_d := Lib.hid (e_d.out.on (BW_alloc (BW_refl _) (.cells #[.int .i64 1, .string t_c2, .string t_c7, .string t_x, .int .u64 (b : Int), .int .u64 0, .int .u64 0, .int .u64 0, .string t_ann, .string t_bob, .int .i64 9, .int .i64 0] 34)))
  replace BB := BW_on BB (BW_alloc (BW_refl _) (.cells #[.int .i64 1, .string t_c2, .string t_c7, .string t_x, .int .u64 (b : Int), .int .u64 0, .int .u64 0, .int .u64 0, .string t_ann, .string t_bob, .int .i64 9, .int .i64 0] 34))
  have k_q := blk3 w2 (.cells #[.slice q0 S17.length c0] 26) (.cells #[.int .i64 1, .string t_c1, .string t_c7, .string t_x, .int .u64 (a : Int), .int .u64 0, .int .u64 0, .int .u64 0, .string t_ann, .string t_bob, .int .i64 9, .int .i64 0] 34) 34 #[.int .i64 1, .string t_c2, .string t_c7, .string t_x, .int .u64 (b : Int), .int .u64 0, .int .u64 0, .int .u64 0, .string t_ann, .string t_bob, .int .i64 9, .int .i64 0]
  have c_d := fun i => k_d.cell i
  have c_p := fun i => k_p.cell i
  have c_q := fun i => k_q.cell i
  go_wp2_with fail
  refine (HA.out _ _ e_d.out).mono ?_
  rintro e w3 ⟨qa, ca, rfl, hen, hb⟩
  clear c_d c_p c_q
  replace k_d := k_d.on hb
  replace k_p := k_p.on hb
  replace k_q := k_q.on hb
  replace e_d := Lib.hid (e_d.out.on hb)
  replace BB := BW_on BB hb
  replace k_d := k_d.on (BW_alloc (BW_refl _) (.cells #[.slice qa A.length ca] 26))
  replace k_p := k_p.on (BW_alloc (BW_refl _) (.cells #[.slice qa A.length ca] 26))
  replace k_q := k_q.on (BW_alloc (BW_refl _) (.cells #[.slice qa A.length ca] 26))
  replace e_d := Lib.hid (e_d.out.on (BW_alloc (BW_refl _) (.cells #[.slice qa A.length ca] 26)))
  replace BB := BW_on BB (BW_alloc (BW_refl _) (.cells #[.slice qa A.length ca] 26))
  have k_a := blk1 w3 26 #[.slice qa A.length ca]
  have e_a := Lib.hid (hen.on (BW_alloc (BW_refl _) (.cells #[.slice qa A.length ca] 26)))
  clear hen hb HA
  have c_a := fun i => k_a.cell i
  have c_p := fun i => k_p.cell i
  have c_q := fun i => k_q.cell i
  go_wp2_with fail
  refine (HB.out _ _ e_a.out).mono ?_
  rintro e w4 ⟨qb, cb, rfl, hen, hb⟩
  clear c_a c_p c_q
  replace k_d := k_d.on hb
  replace k_p := k_p.on hb
  replace k_q := k_q.on hb
  replace k_a := k_a.on hb
  replace e_d := Lib.hid (e_d.out.on hb)
  replace e_a := Lib.hid (e_a.out.on hb)
  replace BB := BW_on BB hb
  replace k_d := k_d.on (BW_alloc (BW_refl _) (.cells #[.slice qb B.length cb] 26))
  replace k_p := k_p.on (BW_alloc (BW_refl _) (.cells #[.slice qb B.length cb] 26))
  replace k_q := k_q.on (BW_alloc (BW_refl _) (.cells #[.slice qb B.length cb] 26))
  replace k_a := k_a.on (BW_alloc (BW_refl _) (.cells #[.slice qb B.length cb] 26))
  replace e_d := Lib.hid (e_d.out.on (BW_alloc (BW_refl _) (.cells #[.slice qb B.length cb] 26)))
  replace e_a := Lib.hid (e_a.out.on (BW_alloc (BW_refl _) (.cells #[.slice qb B.length cb] 26)))
  replace BB := BW_on BB (BW_alloc (BW_refl _) (.cells #[.slice qb B.length cb] 26))
  have k_b := blk1 w4 26 #[.slice qb B.length cb]
  have e_b := Lib.hid (hen.on (BW_alloc (BW_refl _) (.cells #[.slice qb B.length cb] 26)))
  clear hen hb HB
  have c_q := fun i => k_q.cell i
  clear c_q
  skip
  have c_b := fun i => k_b.cell i
  have c_q := fun i => k_q.cell i
  have c_p := fun i => k_p.cell i
  go_upto_region 12 with (fail)
  change Code.wp _ _ _ _ ((w4.alloc (.cells #[.slice qb B.length cb] 26)).alloc (.cells #[.int .i64 1, .string t_c7, .string t_c2, .string t_c7x, .int .u64 (b : Int), .int .u64 0, .int .u64 0, .int .u64 0, .string t_bob, .string t_cat, .int .i64 9, .int .i64 0] 34))
  clear c_b c_q c_p
  replace k_d := k_d.on (BW_alloc (BW_refl _) (.cells #[.int .i64 1, .string t_c7, .string t_c2, .string t_c7x, .int .u64 (b : Int), .int .u64 0, .int .u64 0, .int .u64 0, .string t_bob, .string t_cat, .int .i64 9, .int .i64 0] 34))
  replace k_p := k_p.on (BW_alloc (BW_refl _) (.cells #[.int .i64 1, .string t_c7, .string t_c2, .string t_c7x, .int .u64 (b : Int), .int .u64 0, .int .u64 0, .int .u64 0, .string t_bob, .string t_cat, .int .i64 9, .int .i64 0] 34))
  replace k_q := k_q.on (BW_alloc (BW_refl _) (.cells #[.int .i64 1, .string t_c7, .string t_c2, .string t_c7x, .int .u64 (b : Int), .int .u64 0, .int .u64 0, .int .u64 0, .string t_bob, .string t_cat, .int .i64 9, .int .i64 0] 34))
  replace k_a := k_a.on (BW_alloc (BW_refl _) (.cells #[.int .i64 1, .string t_c7, .string t_c2, .string t_c7x, .int .u64 (b : Int), .int .u64 0, .int .u64 0, .int .u64 0, .string t_bob, .string t_cat, .int .i64 9, .int .i64 0] 34))
  replace k_b := k_b.on (BW_alloc (BW_refl _) (.cells #[.int .i64 1, .string t_c7, .string t_c2, .string t_c7x, .int .u64 (b : Int), .int .u64 0, .int .u64 0, .int .u64 0, .string t_bob, .string t_cat, .int .i64 9, .int .i64 0] 34))
  replace e_d := Lib.hid (e_d.out.on (BW_alloc (BW_refl _) (.cells #[.int .i64 1, .string t_c7, .string t_c2, .string t_c7x, .int .u64 (b : Int), .int .u64 0, .int .u64 0, .int .u64 0, .string t_bob, .string t_cat, .int .i64 9, .int .i64 0] 34)))
  replace e_a := Lib.hid (e_a.out.on (BW_alloc (BW_refl _) (.cells #[.int .i64 1, .string t_c7, .string t_c2, .string t_c7x, .int .u64 (b : Int), .int .u64 0, .int .u64 0, .int .u64 0, .string t_bob, .string t_cat, .int .i64 9, .int .i64 0] 34)))
  replace e_b := Lib.hid (e_b.out.on (BW_alloc (BW_refl _) (.cells #[.int .i64 1, .string t_c7, .string t_c2, .string t_c7x, .int .u64 (b : Int), .int .u64 0, .int .u64 0, .int .u64 0, .string t_bob, .string t_cat, .int .i64 9, .int .i64 0] 34)))
  replace BB := BW_on BB (BW_alloc (BW_refl _) (.cells #[.int .i64 1, .string t_c7, .string t_c2, .string t_c7x, .int .u64 (b : Int), .int .u64 0, .int .u64 0, .int .u64 0, .string t_bob, .string t_cat, .int .i64 9, .int .i64 0] 34))
  have k_h := blk2 w4 (.cells #[.slice qb B.length cb] 26) 34 #[.int .i64 1, .string t_c7, .string t_c2, .string t_c7x, .int .u64 (b : Int), .int .u64 0, .int .u64 0, .int .u64 0, .string t_bob, .string t_cat, .int .i64 9, .int .i64 0]
  have c_b := fun i => k_b.cell i
  have c_h := fun i => k_h.cell i
  go_wp2_with fail
  refine (HC.out _ _ e_b.out).mono ?_
  rintro e w5 ⟨qc, cc, rfl, hen, hb⟩
  clear c_b c_h
  replace k_d := k_d.on hb
  replace k_p := k_p.on hb
  replace k_q := k_q.on hb
  replace k_a := k_a.on hb
  replace k_b := k_b.on hb
  replace k_h := k_h.on hb
  replace e_d := Lib.hid (e_d.out.on hb)
  replace e_a := Lib.hid (e_a.out.on hb)
  replace e_b := Lib.hid (e_b.out.on hb)
  replace BB := BW_on BB hb
  replace k_d := k_d.on (BW_alloc (BW_refl _) (.cells #[.slice qc C.length cc] 26))
  replace k_p := k_p.on (BW_alloc (BW_refl _) (.cells #[.slice qc C.length cc] 26))
  replace k_q := k_q.on (BW_alloc (BW_refl _) (.cells #[.slice qc C.length cc] 26))
  replace k_a := k_a.on (BW_alloc (BW_refl _) (.cells #[.slice qc C.length cc] 26))
  replace k_b := k_b.on (BW_alloc (BW_refl _) (.cells #[.slice qc C.length cc] 26))
  replace k_h := k_h.on (BW_alloc (BW_refl _) (.cells #[.slice qc C.length cc] 26))
  replace e_d := Lib.hid (e_d.out.on (BW_alloc (BW_refl _) (.cells #[.slice qc C.length cc] 26)))
  replace e_a := Lib.hid (e_a.out.on (BW_alloc (BW_refl _) (.cells #[.slice qc C.length cc] 26)))
  replace e_b := Lib.hid (e_b.out.on (BW_alloc (BW_refl _) (.cells #[.slice qc C.length cc] 26)))
  replace BB := BW_on BB (BW_alloc (BW_refl _) (.cells #[.slice qc C.length cc] 26))
  have k_c := blk1 w5 26 #[.slice qc C.length cc]
  have e_c := Lib.hid (hen.on (BW_alloc (BW_refl _) (.cells #[.slice qc C.length cc] 26)))
  clear hen hb HC
  have c_c := fun i => k_c.cell i
  have c_h := fun i => k_h.cell i
  go_wp2_with fail
  refine (HD.out _ _ e_c.out).mono ?_
  rintro e w6 ⟨qd, cd, rfl, hen, hb⟩
  clear c_c c_h
  replace k_d := k_d.on hb
  replace k_p := k_p.on hb
  replace k_q := k_q.on hb
  replace k_a := k_a.on hb
  replace k_b := k_b.on hb
  replace k_h := k_h.on hb
  replace k_c := k_c.on hb
  replace e_d := Lib.hid (e_d.out.on hb)
  replace e_a := Lib.hid (e_a.out.on hb)
  replace e_b := Lib.hid (e_b.out.on hb)
  replace e_c := Lib.hid (e_c.out.on hb)
  replace BB := BW_on BB hb
  replace k_d := k_d.on (BW_alloc (BW_refl _) (.cells #[.slice qd 0 cd] 26))
  replace k_p := k_p.on (BW_alloc (BW_refl _) (.cells #[.slice qd 0 cd] 26))
  replace k_q := k_q.on (BW_alloc (BW_refl _) (.cells #[.slice qd 0 cd] 26))
  replace k_a := k_a.on (BW_alloc (BW_refl _) (.cells #[.slice qd 0 cd] 26))
  replace k_b := k_b.on (BW_alloc (BW_refl _) (.cells #[.slice qd 0 cd] 26))
  replace k_h := k_h.on (BW_alloc (BW_refl _) (.cells #[.slice qd 0 cd] 26))
  replace k_c := k_c.on (BW_alloc (BW_refl _) (.cells #[.slice qd 0 cd] 26))
  replace e_d := Lib.hid (e_d.out.on (BW_alloc (BW_refl _) (.cells #[.slice qd 0 cd] 26)))
  replace e_a := Lib.hid (e_a.out.on (BW_alloc (BW_refl _) (.cells #[.slice qd 0 cd] 26)))
  replace e_b := Lib.hid (e_b.out.on (BW_alloc (BW_refl _) (.cells #[.slice qd 0 cd] 26)))
  replace e_c := Lib.hid (e_c.out.on (BW_alloc (BW_refl _) (.cells #[.slice qd 0 cd] 26)))
  replace BB := BW_on BB (BW_alloc (BW_refl _) (.cells #[.slice qd 0 cd] 26))
  have k_x := blk1 w6 26 #[.slice qd 0 cd]
  clear hen hb HD
  have c_c := fun i => k_c.cell i
  go_wp2_with fail
  refine (all_any _ C _ e_c.out (by omega)).mono ?_
  rintro e w70 ⟨va, rfl, hown, hb⟩
  clear c_c
  replace k_d := k_d.on hb
  replace k_p := k_p.on hb
  replace k_q := k_q.on hb
  replace k_a := k_a.on hb
  replace k_b := k_b.on hb
  replace k_h := k_h.on hb
  replace k_c := k_c.on hb
  replace k_x := k_x.on hb
  replace e_d := Lib.hid (e_d.out.on hb)
  replace e_a := Lib.hid (e_a.out.on hb)
  replace e_b := Lib.hid (e_b.out.on hb)
  replace e_c := Lib.hid (e_c.out.on hb)
  replace BB := BW_on BB hb
  have e_y : Hid (Ents w70 va C) := own_ents hown
  clear hown hb
  go_wp2_with fail
  refine (B1.out _ _ e_y.out).mono ?_
  rintro e w7 ⟨rfl, hb⟩
  replace k_d := k_d.on hb
  replace k_p := k_p.on hb
  replace k_q := k_q.on hb
  replace k_a := k_a.on hb
  replace k_b := k_b.on hb
  replace k_h := k_h.on hb
  replace k_c := k_c.on hb
  replace k_x := k_x.on hb
  replace e_d := Lib.hid (e_d.out.on hb)
  replace e_a := Lib.hid (e_a.out.on hb)
  replace e_b := Lib.hid (e_b.out.on hb)
  replace e_c := Lib.hid (e_c.out.on hb)
  replace BB := BW_on BB hb
  clear e_y hb B1
  replace k_d := k_d.on (BW_alloc (BW_refl _) (.cells #[.int .u64 (a : Int), .int .u64 0, .int .u64 0, .int .u64 0] 30))
  replace k_p := k_p.on (BW_alloc (BW_refl _) (.cells #[.int .u64 (a : Int), .int .u64 0, .int .u64 0, .int .u64 0] 30))
  replace k_q := k_q.on (BW_alloc (BW_refl _) (.cells #[.int .u64 (a : Int), .int .u64 0, .int .u64 0, .int .u64 0] 30))
  replace k_a := k_a.on (BW_alloc (BW_refl _) (.cells #[.int .u64 (a : Int), .int .u64 0, .int .u64 0, .int .u64 0] 30))
  replace k_b := k_b.on (BW_alloc (BW_refl _) (.cells #[.int .u64 (a : Int), .int .u64 0, .int .u64 0, .int .u64 0] 30))
  replace k_h := k_h.on (BW_alloc (BW_refl _) (.cells #[.int .u64 (a : Int), .int .u64 0, .int .u64 0, .int .u64 0] 30))
  replace k_c := k_c.on (BW_alloc (BW_refl _) (.cells #[.int .u64 (a : Int), .int .u64 0, .int .u64 0, .int .u64 0] 30))
  replace k_x := k_x.on (BW_alloc (BW_refl _) (.cells #[.int .u64 (a : Int), .int .u64 0, .int .u64 0, .int .u64 0] 30))
  replace e_d := Lib.hid (e_d.out.on (BW_alloc (BW_refl _) (.cells #[.int .u64 (a : Int), .int .u64 0, .int .u64 0, .int .u64 0] 30)))
  replace e_a := Lib.hid (e_a.out.on (BW_alloc (BW_refl _) (.cells #[.int .u64 (a : Int), .int .u64 0, .int .u64 0, .int .u64 0] 30)))
  replace e_b := Lib.hid (e_b.out.on (BW_alloc (BW_refl _) (.cells #[.int .u64 (a : Int), .int .u64 0, .int .u64 0, .int .u64 0] 30)))
  replace e_c := Lib.hid (e_c.out.on (BW_alloc (BW_refl _) (.cells #[.int .u64 (a : Int), .int .u64 0, .int .u64 0, .int .u64 0] 30)))
  replace BB := BW_on BB (BW_alloc (BW_refl _) (.cells #[.int .u64 (a : Int), .int .u64 0, .int .u64 0, .int .u64 0] 30))
  have k_one := blk1 w7 30 #[.int .u64 (a : Int), .int .u64 0, .int .u64 0, .int .u64 0]
  have c_c := fun i => k_c.cell i
  go_wp2_with fail
  refine (all_any _ C _ e_c.out (by omega)).mono ?_
  rintro e w80 ⟨va, rfl, hown, hb⟩
  clear c_c
  replace k_d := k_d.on hb
  replace k_p := k_p.on hb
  replace k_q := k_q.on hb
  replace k_a := k_a.on hb
  replace k_b := k_b.on hb
  replace k_h := k_h.on hb
  replace k_c := k_c.on hb
  replace k_x := k_x.on hb
  replace k_one := k_one.on hb
  replace e_d := Lib.hid (e_d.out.on hb)
  replace e_a := Lib.hid (e_a.out.on hb)
  replace e_b := Lib.hid (e_b.out.on hb)
  replace e_c := Lib.hid (e_c.out.on hb)
  replace BB := BW_on BB hb
  have e_y : Hid (Ents w80 va C) := own_ents hown
  clear hown hb
  go_wp2_with fail
  refine (B2.out _ _ e_y.out).mono ?_
  rintro e w8 ⟨rfl, hb⟩
  replace k_d := k_d.on hb
  replace k_p := k_p.on hb
  replace k_q := k_q.on hb
  replace k_a := k_a.on hb
  replace k_b := k_b.on hb
  replace k_h := k_h.on hb
  replace k_c := k_c.on hb
  replace k_x := k_x.on hb
  replace k_one := k_one.on hb
  replace e_d := Lib.hid (e_d.out.on hb)
  replace e_a := Lib.hid (e_a.out.on hb)
  replace e_b := Lib.hid (e_b.out.on hb)
  replace e_c := Lib.hid (e_c.out.on hb)
  replace BB := BW_on BB hb
  clear e_y hb B2
  replace k_d := k_d.on (BW_alloc (BW_refl _) (.cells #[.int .u64 0, .int .u64 0, .int .u64 0, .int .u64 0] 30))
  replace k_p := k_p.on (BW_alloc (BW_refl _) (.cells #[.int .u64 0, .int .u64 0, .int .u64 0, .int .u64 0] 30))
  replace k_q := k_q.on (BW_alloc (BW_refl _) (.cells #[.int .u64 0, .int .u64 0, .int .u64 0, .int .u64 0] 30))
  replace k_a := k_a.on (BW_alloc (BW_refl _) (.cells #[.int .u64 0, .int .u64 0, .int .u64 0, .int .u64 0] 30))
  replace k_b := k_b.on (BW_alloc (BW_refl _) (.cells #[.int .u64 0, .int .u64 0, .int .u64 0, .int .u64 0] 30))
  replace k_h := k_h.on (BW_alloc (BW_refl _) (.cells #[.int .u64 0, .int .u64 0, .int .u64 0, .int .u64 0] 30))
  replace k_c := k_c.on (BW_alloc (BW_refl _) (.cells #[.int .u64 0, .int .u64 0, .int .u64 0, .int .u64 0] 30))
  replace k_x := k_x.on (BW_alloc (BW_refl _) (.cells #[.int .u64 0, .int .u64 0, .int .u64 0, .int .u64 0] 30))
  replace k_one := k_one.on (BW_alloc (BW_refl _) (.cells #[.int .u64 0, .int .u64 0, .int .u64 0, .int .u64 0] 30))
  replace e_d := Lib.hid (e_d.out.on (BW_alloc (BW_refl _) (.cells #[.int .u64 0, .int .u64 0, .int .u64 0, .int .u64 0] 30)))
  replace e_a := Lib.hid (e_a.out.on (BW_alloc (BW_refl _) (.cells #[.int .u64 0, .int .u64 0, .int .u64 0, .int .u64 0] 30)))
  replace e_b := Lib.hid (e_b.out.on (BW_alloc (BW_refl _) (.cells #[.int .u64 0, .int .u64 0, .int .u64 0, .int .u64 0] 30)))
  replace e_c := Lib.hid (e_c.out.on (BW_alloc (BW_refl _) (.cells #[.int .u64 0, .int .u64 0, .int .u64 0, .int .u64 0] 30)))
  replace BB := BW_on BB (BW_alloc (BW_refl _) (.cells #[.int .u64 0, .int .u64 0, .int .u64 0, .int .u64 0] 30))
  have k_two := blk1 w8 30 #[.int .u64 0, .int .u64 0, .int .u64 0, .int .u64 0]
  have c_c := fun i => k_c.cell i
  go_wp2_with fail
  refine (all_any _ C _ e_c.out (by omega)).mono ?_
  rintro e w90 ⟨va, rfl, hown, hb⟩
  clear c_c
  replace k_d := k_d.on hb
  replace k_p := k_p.on hb
  replace k_q := k_q.on hb
  replace k_a := k_a.on hb
  replace k_b := k_b.on hb
  replace k_h := k_h.on hb
  replace k_c := k_c.on hb
  replace k_x := k_x.on hb
  replace k_one := k_one.on hb
  replace k_two := k_two.on hb
  replace e_d := Lib.hid (e_d.out.on hb)
  replace e_a := Lib.hid (e_a.out.on hb)
  replace e_b := Lib.hid (e_b.out.on hb)
  replace e_c := Lib.hid (e_c.out.on hb)
  replace BB := BW_on BB hb
  have e_y : Hid (Ents w90 va C) := own_ents hown
  clear hown hb
  go_wp2_with fail
  refine (B3.out _ _ e_y.out).mono ?_
  rintro e w9 ⟨rfl, hb⟩
  replace k_d := k_d.on hb
  replace k_p := k_p.on hb
  replace k_q := k_q.on hb
  replace k_a := k_a.on hb
  replace k_b := k_b.on hb
  replace k_h := k_h.on hb
  replace k_c := k_c.on hb
  replace k_x := k_x.on hb
  replace k_one := k_one.on hb
  replace k_two := k_two.on hb
  replace e_d := Lib.hid (e_d.out.on hb)
  replace e_a := Lib.hid (e_a.out.on hb)
  replace e_b := Lib.hid (e_b.out.on hb)
  replace e_c := Lib.hid (e_c.out.on hb)
  replace BB := BW_on BB hb
  clear e_y hb B3
  replace k_d := k_d.on (BW_alloc (BW_refl _) (.cells #[.int .u64 (b : Int), .int .u64 0, .int .u64 0, .int .u64 0] 30))
  replace k_p := k_p.on (BW_alloc (BW_refl _) (.cells #[.int .u64 (b : Int), .int .u64 0, .int .u64 0, .int .u64 0] 30))
  replace k_q := k_q.on (BW_alloc (BW_refl _) (.cells #[.int .u64 (b : Int), .int .u64 0, .int .u64 0, .int .u64 0] 30))
  replace k_a := k_a.on (BW_alloc (BW_refl _) (.cells #[.int .u64 (b : Int), .int .u64 0, .int .u64 0, .int .u64 0] 30))
  replace k_b := k_b.on (BW_alloc (BW_refl _) (.cells #[.int .u64 (b : Int), .int .u64 0, .int .u64 0, .int .u64 0] 30))
  replace k_h := k_h.on (BW_alloc (BW_refl _) (.cells #[.int .u64 (b : Int), .int .u64 0, .int .u64 0, .int .u64 0] 30))
  replace k_c := k_c.on (BW_alloc (BW_refl _) (.cells #[.int .u64 (b : Int), .int .u64 0, .int .u64 0, .int .u64 0] 30))
  replace k_x := k_x.on (BW_alloc (BW_refl _) (.cells #[.int .u64 (b : Int), .int .u64 0, .int .u64 0, .int .u64 0] 30))
  replace k_one := k_one.on (BW_alloc (BW_refl _) (.cells #[.int .u64 (b : Int), .int .u64 0, .int .u64 0, .int .u64 0] 30))
  replace k_two := k_two.on (BW_alloc (BW_refl _) (.cells #[.int .u64 (b : Int), .int .u64 0, .int .u64 0, .int .u64 0] 30))
  replace e_d := Lib.hid (e_d.out.on (BW_alloc (BW_refl _) (.cells #[.int .u64 (b : Int), .int .u64 0, .int .u64 0, .int .u64 0] 30)))
  replace e_a := Lib.hid (e_a.out.on (BW_alloc (BW_refl _) (.cells #[.int .u64 (b : Int), .int .u64 0, .int .u64 0, .int .u64 0] 30)))
  replace e_b := Lib.hid (e_b.out.on (BW_alloc (BW_refl _) (.cells #[.int .u64 (b : Int), .int .u64 0, .int .u64 0, .int .u64 0] 30)))
  replace e_c := Lib.hid (e_c.out.on (BW_alloc (BW_refl _) (.cells #[.int .u64 (b : Int), .int .u64 0, .int .u64 0, .int .u64 0] 30)))
  replace BB := BW_on BB (BW_alloc (BW_refl _) (.cells #[.int .u64 (b : Int), .int .u64 0, .int .u64 0, .int .u64 0] 30))
  have k_three := blk1 w9 30 #[.int .u64 (b : Int), .int .u64 0, .int .u64 0, .int .u64 0]
  have c_one := fun i => k_one.cell i
  have c_two := fun i => k_two.cell i
  have c_three := fun i => k_three.cell i
  have c_p := fun i => k_p.cell i
  have c_q := fun i => k_q.cell i
  have hE1 := HEA.out
  have hE2 := HEB.out
  go_wp2_with fail
  go_ret
  exact ⟨rfl, BB⟩
end Go.Proofs.YtiaflghhfcnjlaaGreatDoor

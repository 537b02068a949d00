/- The law BankSplit: what goes in two parts leaves the same as what goes at once; over three hands, too: for every input. -/
import Derived.Test.YtbimnfmjgmfijaaBj
import Derived.Test.YtbimnfmjgmfijaaBl
namespace Go.Proofs.Ytbimnfmjgmfijaa
open Go.ChangeShapes Go.WideShapes Go.ChangeAt Go.RowKit Go.WideElems
section
attribute [local go_sem ↓] Go.wp_at_zero Go.wp_at_succ
theorem and_small (x : Int) (m : Nat) (hm : m < 64) : ∃ a : Nat, a ≤ m ∧ bits .and .u64 x (m : Int) = (a : Int) := by
  have e2 : (BitVec.ofInt 64 (m : Int)).toNat = m := by rw [BitVec.toNat_ofInt]; omega
  have h : (BitVec.ofInt 64 x &&& BitVec.ofInt 64 (m : Int)).toNat ≤ m := by
    rw [BitVec.toNat_and, e2]
    exact Nat.and_le_right
  have e : bits .and .u64 x (m : Int) = IntKind.u64.wrap (((BitVec.ofInt 64 x &&& BitVec.ofInt 64 (m : Int)).toNat : Nat) : Int) := rfl
  refine ⟨(BitVec.ofInt 64 x &&& BitVec.ofInt 64 (m : Int)).toNat, h, ?_⟩
  rw [e, IntKind.wrap_u64]
  omega
theorem one_small (x : Int) (m : Nat) (hm : m < 64) : ∃ a : Nat, 1 ≤ a ∧ a ≤ m + 1 ∧ IntKind.u64.wrap (1 + bits .and .u64 x (m : Int)) = (a : Int) := by
  obtain ⟨a, h, e⟩ := and_small x m hm
  refine ⟨1 + a, by omega, by omega, ?_⟩
  rw [e, IntKind.wrap_u64]
  omega
set_option maxHeartbeats 8000000 in
set_option maxRecDepth 100000 in
theorem l11split_any (n m z : Int) (w : World) : Calls Try.prog 7 #[.int .u64 n, .int .u64 m, .int .u64 z] w fun e w' => e = .returned (.bool true) ∧ Below w.heap.size w w' := by
  obtain ⟨a, a0, a1, ea⟩ : ∃ r : Nat, 1 ≤ r ∧ r ≤ 16 ∧ IntKind.u64.wrap (1 + bits .and .u64 n 15) = (r : Int) := one_small n 15 (by decide)
  obtain ⟨b, b0, b1, eb⟩ : ∃ r : Nat, 1 ≤ r ∧ r ≤ 16 ∧ IntKind.u64.wrap (1 + bits .and .u64 m 15) = (r : Int) := one_small m 15 (by decide)
  obtain ⟨N, N0, N1, eN⟩ : ∃ r : Nat, 1 ≤ r ∧ r ≤ 32 ∧ IntKind.u64.wrap (1 + bits .and .u64 z 31) = (r : Int) := one_small z 31 (by decide)
  obtain ⟨s, hs⟩ : ∃ s, s = a + b := ⟨_, rfl⟩
  have es : IntKind.u64.wrap ((a : Int) + (b : Int)) = (s : Int) := by rw [IntKind.wrap_u64]; omega
  have sm : ∀ {x : Nat}, x < 1000 → x < 18446744073709551616 := fun h => Nat.lt_trans h (by decide)
  have HM := fun w => bmint_any (.slice none 0 0) [] ba bx N w (Ents.nil w) List.Pairwise.nil (by decide) (W256.small (sm (by omega)))
  rw [split_mint (by omega) (by omega), (limb_small (sm (by omega : N < 1000))).1, (limb_small (sm (by omega : N < 1000))).2.1, (limb_small (sm (by omega : N < 1000))).2.2.1, (limb_small (sm (by omega : N < 1000))).2.2.2] at HM
  have HX := fun v w hv => bmove_any v (splitD N) ba bb bx s w hv (splitD_srt N) (by have := split_len N 0; omega) (W256.small (sm (by omega)))
  rw [split_move (by omega) (by omega) (by omega), (limb_small (sm (by omega : s < 1000))).1, (limb_small (sm (by omega : s < 1000))).2.1, (limb_small (sm (by omega : s < 1000))).2.2.1, (limb_small (sm (by omega : s < 1000))).2.2.2] at HX
  have HY := fun v w hv => bmove_any v (splitD N) ba bb bx a w hv (splitD_srt N) (by have := split_len N 0; omega) (W256.small (sm (by omega)))
  rw [split_move (by omega) (by omega) (by omega), (limb_small (sm (by omega : a < 1000))).1, (limb_small (sm (by omega : a < 1000))).2.1, (limb_small (sm (by omega : a < 1000))).2.2.1, (limb_small (sm (by omega : a < 1000))).2.2.2] at HY
  replace HM := Lib.hid HM
  have hdl := (split_len N 0).1
  by_cases h2 : s ≤ N
  · rw [if_pos h2] at HX
    rw [if_pos (by omega : a ≤ N)] at HY
    have HZ := fun v w hv => bmove_any v (splitX N a) ba bb bx b w hv (splitX_srt N a) (by have := split_len N a; omega) (W256.small (sm (by omega)))
    rw [split_z (by omega) (by omega) (by omega), (limb_small (sm (by omega : b < 1000))).1, (limb_small (sm (by omega : b < 1000))).2.1, (limb_small (sm (by omega : b < 1000))).2.2.1, (limb_small (sm (by omega : b < 1000))).2.2.2] at HZ
    have HC := fun v w hv => bmove_any v (splitX N s) bb bc bx s w hv (splitX_srt N s) (by have := split_len N s; omega) (W256.small (sm (by omega)))
    rw [split_c (by omega) (by omega) h2, (limb_small (sm (by omega : s < 1000))).1, (limb_small (sm (by omega : s < 1000))).2.1, (limb_small (sm (by omega : s < 1000))).2.2.1, (limb_small (sm (by omega : s < 1000))).2.2.2] at HC
    have HU := fun v w hv => bmove_any v (splitD N) ba bc bx s w hv (splitD_srt N) (by have := split_len N 0; omega) (W256.small (sm (by omega)))
    rw [split_u (by omega) (by omega) h2, (limb_small (sm (by omega : s < 1000))).1, (limb_small (sm (by omega : s < 1000))).2.1, (limb_small (sm (by omega : s < 1000))).2.2.1, (limb_small (sm (by omega : s < 1000))).2.2.2] at HU
    rw [← hs] at HZ
    have HS1 := fun v1 v2 w h1 h2 => same_any v1 v2 (splitX N s) (splitX N s) w h1 h2 (by have := split_len N s; omega) (by have := split_len N s; omega)
    have HS2 := fun v1 v2 w h1 h2 => same_any v1 v2 (splitC N s) (splitC N s) w h1 h2 (by have := split_len N s; omega) (by have := split_len N s; omega)
    rw [decide_eq_true rfl] at HS1 HS2
    have h2' : (s : Int) ≤ (N : Int) := by omega
    have h1' : (a : Int) ≤ (N : Int) := by omega
    replace HX := Lib.hid HX
    replace HY := Lib.hid HY
    replace HZ := Lib.hid HZ
    replace HC := Lib.hid HC
    replace HU := Lib.hid HU
    replace HS1 := Lib.hid HS1
    replace HS2 := Lib.hid HS2
    generalize splitD N = D at *
    generalize hXX : splitX N s = X at *
    generalize splitX N a = Y at *
    generalize splitC N s = C at *
    clear hXX h2 hs a0 a1 b0 b1 N0 N1 hdl
    go_enter Try.func7, Try.ntmps7
    go_wp2_with fail
    refine (awake11_any _).mono ?_
    rintro e w0 ⟨rfl, BB⟩
    go_wp2_with fail
    refine (HM.out _).mono ?_
    rintro e w1 ⟨q1, c1, rfl, hen, hb⟩
    have k_a := ((blk1 w0 38 #[.int .u64 (a : Int), .int .u64 0, .int .u64 0, .int .u64 0]).alloc (.cells #[.int .u64 (b : Int), .int .u64 0, .int .u64 0, .int .u64 0] 38)).alloc (.cells #[.int .u64 (s : Int), .int .u64 0, .int .u64 0, .int .u64 0] 38)
    have k_b := (blk2 w0 (.cells #[.int .u64 (a : Int), .int .u64 0, .int .u64 0, .int .u64 0] 38) 38 #[.int .u64 (b : Int), .int .u64 0, .int .u64 0, .int .u64 0]).alloc (.cells #[.int .u64 (s : Int), .int .u64 0, .int .u64 0, .int .u64 0] 38)
    have k_s := blk3 w0 (.cells #[.int .u64 (a : Int), .int .u64 0, .int .u64 0, .int .u64 0] 38) (.cells #[.int .u64 (b : Int), .int .u64 0, .int .u64 0, .int .u64 0] 38) 38 #[.int .u64 (s : Int), .int .u64 0, .int .u64 0, .int .u64 0]
    replace BB := BW_alloc (BW_alloc (BW_alloc BB (.cells #[.int .u64 (a : Int), .int .u64 0, .int .u64 0, .int .u64 0] 38)) (.cells #[.int .u64 (b : Int), .int .u64 0, .int .u64 0, .int .u64 0] 38)) (.cells #[.int .u64 (s : Int), .int .u64 0, .int .u64 0, .int .u64 0] 38)
    replace k_a := k_a.on hb
    replace k_b := k_b.on hb
    replace k_s := k_s.on hb
    replace BB := BW_on BB hb
    replace k_a := k_a.on (BW_alloc (BW_refl _) (.cells #[.slice q1 D.length c1] 32))
    replace k_b := k_b.on (BW_alloc (BW_refl _) (.cells #[.slice q1 D.length c1] 32))
    replace k_s := k_s.on (BW_alloc (BW_refl _) (.cells #[.slice q1 D.length c1] 32))
    replace BB := BW_on BB (BW_alloc (BW_refl _) (.cells #[.slice q1 D.length c1] 32))
    have e_d := Lib.hid (hen.on (BW_alloc (BW_refl _) (.cells #[.slice q1 D.length c1] 32)))
    have k_d := blk1 w1 32 #[.slice q1 D.length c1]
    clear hen hb
    have c_a := fun i => k_a.cell i
    have c_b := fun i => k_b.cell i
    have c_s := fun i => k_s.cell i
    have c_d := fun i => k_d.cell i
    go_wp2_with fail
    refine (HX.out _ _ e_d.out).mono ?_
    rintro e w2 ⟨q2, c2, rfl, hen, hb⟩
    clear c_a c_b c_s c_d
    replace k_a := k_a.on hb
    replace k_b := k_b.on hb
    replace k_s := k_s.on hb
    replace k_d := k_d.on hb
    replace e_d := Lib.hid (e_d.out.on hb)
    replace BB := BW_on BB hb
    replace k_a := k_a.on (BW_alloc (BW_refl _) (.cells #[.slice q2 X.length c2] 32))
    replace k_b := k_b.on (BW_alloc (BW_refl _) (.cells #[.slice q2 X.length c2] 32))
    replace k_s := k_s.on (BW_alloc (BW_refl _) (.cells #[.slice q2 X.length c2] 32))
    replace k_d := k_d.on (BW_alloc (BW_refl _) (.cells #[.slice q2 X.length c2] 32))
    replace e_d := Lib.hid (e_d.out.on (BW_alloc (BW_refl _) (.cells #[.slice q2 X.length c2] 32)))
    replace BB := BW_on BB (BW_alloc (BW_refl _) (.cells #[.slice q2 X.length c2] 32))
    have e_x := Lib.hid (hen.on (BW_alloc (BW_refl _) (.cells #[.slice q2 X.length c2] 32)))
    have k_x := blk1 w2 32 #[.slice q2 X.length c2]
    clear hen hb
    have c_a := fun i => k_a.cell i
    have c_b := fun i => k_b.cell i
    have c_s := fun i => k_s.cell i
    have c_d := fun i => k_d.cell i
    go_wp2_with fail
    refine (HY.out _ _ e_d.out).mono ?_
    rintro e w3 ⟨q3, c3, rfl, hen, hb⟩
    clear c_a c_b c_s c_d
    replace k_a := k_a.on hb
    replace k_b := k_b.on hb
    replace k_s := k_s.on hb
    replace k_d := k_d.on hb
    replace k_x := k_x.on hb
    replace e_d := Lib.hid (e_d.out.on hb)
    replace e_x := Lib.hid (e_x.out.on hb)
    replace BB := BW_on BB hb
    replace k_a := k_a.on (BW_alloc (BW_refl _) (.cells #[.slice q3 Y.length c3] 32))
    replace k_b := k_b.on (BW_alloc (BW_refl _) (.cells #[.slice q3 Y.length c3] 32))
    replace k_s := k_s.on (BW_alloc (BW_refl _) (.cells #[.slice q3 Y.length c3] 32))
    replace k_d := k_d.on (BW_alloc (BW_refl _) (.cells #[.slice q3 Y.length c3] 32))
    replace k_x := k_x.on (BW_alloc (BW_refl _) (.cells #[.slice q3 Y.length c3] 32))
    replace e_d := Lib.hid (e_d.out.on (BW_alloc (BW_refl _) (.cells #[.slice q3 Y.length c3] 32)))
    replace e_x := Lib.hid (e_x.out.on (BW_alloc (BW_refl _) (.cells #[.slice q3 Y.length c3] 32)))
    replace BB := BW_on BB (BW_alloc (BW_refl _) (.cells #[.slice q3 Y.length c3] 32))
    have e_y := Lib.hid (hen.on (BW_alloc (BW_refl _) (.cells #[.slice q3 Y.length c3] 32)))
    have k_y := blk1 w3 32 #[.slice q3 Y.length c3]
    clear hen hb
    have c_a := fun i => k_a.cell i
    have c_b := fun i => k_b.cell i
    have c_s := fun i => k_s.cell i
    have c_d := fun i => k_d.cell i
    have c_x := fun i => k_x.cell i
    have c_y := fun i => k_y.cell i
    go_wp2_with fail
    refine (HZ.out _ _ e_y.out).mono ?_
    rintro e w4 ⟨q4, c4, rfl, hen, hb⟩
    clear c_a c_b c_s c_d c_x c_y
    replace k_a := k_a.on hb
    replace k_b := k_b.on hb
    replace k_s := k_s.on hb
    replace k_d := k_d.on hb
    replace k_x := k_x.on hb
    replace k_y := k_y.on hb
    replace e_d := Lib.hid (e_d.out.on hb)
    replace e_x := Lib.hid (e_x.out.on hb)
    replace e_y := Lib.hid (e_y.out.on hb)
    replace BB := BW_on BB hb
    replace k_a := k_a.on (BW_alloc (BW_refl _) (.cells #[.slice q4 X.length c4] 32))
    replace k_b := k_b.on (BW_alloc (BW_refl _) (.cells #[.slice q4 X.length c4] 32))
    replace k_s := k_s.on (BW_alloc (BW_refl _) (.cells #[.slice q4 X.length c4] 32))
    replace k_d := k_d.on (BW_alloc (BW_refl _) (.cells #[.slice q4 X.length c4] 32))
    replace k_x := k_x.on (BW_alloc (BW_refl _) (.cells #[.slice q4 X.length c4] 32))
    replace k_y := k_y.on (BW_alloc (BW_refl _) (.cells #[.slice q4 X.length c4] 32))
    replace e_d := Lib.hid (e_d.out.on (BW_alloc (BW_refl _) (.cells #[.slice q4 X.length c4] 32)))
    replace e_x := Lib.hid (e_x.out.on (BW_alloc (BW_refl _) (.cells #[.slice q4 X.length c4] 32)))
    replace e_y := Lib.hid (e_y.out.on (BW_alloc (BW_refl _) (.cells #[.slice q4 X.length c4] 32)))
    replace BB := BW_on BB (BW_alloc (BW_refl _) (.cells #[.slice q4 X.length c4] 32))
    have e_z := Lib.hid (hen.on (BW_alloc (BW_refl _) (.cells #[.slice q4 X.length c4] 32)))
    have k_z := blk1 w4 32 #[.slice q4 X.length c4]
    clear hen hb
    have c_s := fun i => k_s.cell i
    have c_d := fun i => k_d.cell i
    have c_x := fun i => k_x.cell i
    have c_z := fun i => k_z.cell i
    go_wp2_with fail
    refine (HC.out _ _ e_x.out).mono ?_
    rintro e w5 ⟨q5, c5, rfl, hen, hb⟩
    clear c_s c_d c_x c_z
    replace k_a := k_a.on hb
    replace k_b := k_b.on hb
    replace k_s := k_s.on hb
    replace k_d := k_d.on hb
    replace k_x := k_x.on hb
    replace k_y := k_y.on hb
    replace k_z := k_z.on hb
    replace e_d := Lib.hid (e_d.out.on hb)
    replace e_x := Lib.hid (e_x.out.on hb)
    replace e_y := Lib.hid (e_y.out.on hb)
    replace e_z := Lib.hid (e_z.out.on hb)
    replace BB := BW_on BB hb
    replace k_a := k_a.on (BW_alloc (BW_refl _) (.cells #[.slice q5 C.length c5] 32))
    replace k_b := k_b.on (BW_alloc (BW_refl _) (.cells #[.slice q5 C.length c5] 32))
    replace k_s := k_s.on (BW_alloc (BW_refl _) (.cells #[.slice q5 C.length c5] 32))
    replace k_d := k_d.on (BW_alloc (BW_refl _) (.cells #[.slice q5 C.length c5] 32))
    replace k_x := k_x.on (BW_alloc (BW_refl _) (.cells #[.slice q5 C.length c5] 32))
    replace k_y := k_y.on (BW_alloc (BW_refl _) (.cells #[.slice q5 C.length c5] 32))
    replace k_z := k_z.on (BW_alloc (BW_refl _) (.cells #[.slice q5 C.length c5] 32))
    replace e_d := Lib.hid (e_d.out.on (BW_alloc (BW_refl _) (.cells #[.slice q5 C.length c5] 32)))
    replace e_x := Lib.hid (e_x.out.on (BW_alloc (BW_refl _) (.cells #[.slice q5 C.length c5] 32)))
    replace e_y := Lib.hid (e_y.out.on (BW_alloc (BW_refl _) (.cells #[.slice q5 C.length c5] 32)))
    replace e_z := Lib.hid (e_z.out.on (BW_alloc (BW_refl _) (.cells #[.slice q5 C.length c5] 32)))
    replace BB := BW_on BB (BW_alloc (BW_refl _) (.cells #[.slice q5 C.length c5] 32))
    have e_c := Lib.hid (hen.on (BW_alloc (BW_refl _) (.cells #[.slice q5 C.length c5] 32)))
    have k_c := blk1 w5 32 #[.slice q5 C.length c5]
    clear hen hb
    have c_s := fun i => k_s.cell i
    have c_d := fun i => k_d.cell i
    have c_x := fun i => k_x.cell i
    have c_z := fun i => k_z.cell i
    have c_c := fun i => k_c.cell i
    go_wp2_with fail
    refine (HU.out _ _ e_d.out).mono ?_
    rintro e w6 ⟨q6, c6, rfl, hen, hb⟩
    clear c_s c_d c_x c_z c_c
    replace k_a := k_a.on hb
    replace k_b := k_b.on hb
    replace k_s := k_s.on hb
    replace k_d := k_d.on hb
    replace k_x := k_x.on hb
    replace k_y := k_y.on hb
    replace k_z := k_z.on hb
    replace k_c := k_c.on hb
    replace e_d := Lib.hid (e_d.out.on hb)
    replace e_x := Lib.hid (e_x.out.on hb)
    replace e_y := Lib.hid (e_y.out.on hb)
    replace e_z := Lib.hid (e_z.out.on hb)
    replace e_c := Lib.hid (e_c.out.on hb)
    replace BB := BW_on BB hb
    replace k_a := k_a.on (BW_alloc (BW_refl _) (.cells #[.slice q6 C.length c6] 32))
    replace k_b := k_b.on (BW_alloc (BW_refl _) (.cells #[.slice q6 C.length c6] 32))
    replace k_s := k_s.on (BW_alloc (BW_refl _) (.cells #[.slice q6 C.length c6] 32))
    replace k_d := k_d.on (BW_alloc (BW_refl _) (.cells #[.slice q6 C.length c6] 32))
    replace k_x := k_x.on (BW_alloc (BW_refl _) (.cells #[.slice q6 C.length c6] 32))
    replace k_y := k_y.on (BW_alloc (BW_refl _) (.cells #[.slice q6 C.length c6] 32))
    replace k_z := k_z.on (BW_alloc (BW_refl _) (.cells #[.slice q6 C.length c6] 32))
    replace k_c := k_c.on (BW_alloc (BW_refl _) (.cells #[.slice q6 C.length c6] 32))
    replace e_d := Lib.hid (e_d.out.on (BW_alloc (BW_refl _) (.cells #[.slice q6 C.length c6] 32)))
    replace e_x := Lib.hid (e_x.out.on (BW_alloc (BW_refl _) (.cells #[.slice q6 C.length c6] 32)))
    replace e_y := Lib.hid (e_y.out.on (BW_alloc (BW_refl _) (.cells #[.slice q6 C.length c6] 32)))
    replace e_z := Lib.hid (e_z.out.on (BW_alloc (BW_refl _) (.cells #[.slice q6 C.length c6] 32)))
    replace e_c := Lib.hid (e_c.out.on (BW_alloc (BW_refl _) (.cells #[.slice q6 C.length c6] 32)))
    replace BB := BW_on BB (BW_alloc (BW_refl _) (.cells #[.slice q6 C.length c6] 32))
    have e_u := Lib.hid (hen.on (BW_alloc (BW_refl _) (.cells #[.slice q6 C.length c6] 32)))
    have k_u := blk1 w6 32 #[.slice q6 C.length c6]
    clear hen hb
    have c_x := fun i => k_x.cell i
    have c_z := fun i => k_z.cell i
    have c_c := fun i => k_c.cell i
    have c_u := fun i => k_u.cell i
    go_wp2_with fail
    refine (HS1.out _ _ _ e_x.out e_z.out).mono ?_
    rintro e w9 ⟨rfl, hb⟩
    clear c_x c_z c_c c_u
    replace k_a := k_a.on hb
    replace k_b := k_b.on hb
    replace k_s := k_s.on hb
    replace k_d := k_d.on hb
    replace k_x := k_x.on hb
    replace k_y := k_y.on hb
    replace k_z := k_z.on hb
    replace k_c := k_c.on hb
    replace k_u := k_u.on hb
    replace e_d := Lib.hid (e_d.out.on hb)
    replace e_x := Lib.hid (e_x.out.on hb)
    replace e_y := Lib.hid (e_y.out.on hb)
    replace e_z := Lib.hid (e_z.out.on hb)
    replace e_c := Lib.hid (e_c.out.on hb)
    replace e_u := Lib.hid (e_u.out.on hb)
    replace BB := BW_on BB hb
    have c_c := fun i => k_c.cell i
    have c_u := fun i => k_u.cell i
    go_wp2_with fail
    refine (HS2.out _ _ _ e_c.out e_u.out).mono ?_
    rintro e w10 ⟨rfl, hb⟩
    clear c_c c_u
    replace BB := BW_on BB hb
    go_wp2_with fail
    go_ret
    exact ⟨rfl, BB⟩
  by_cases h1 : a ≤ N
  · rw [if_pos h1] at HY
    have h1' : (a : Int) ≤ (N : Int) := by omega
    rw [if_neg h2] at HX
    have h2' : ¬ (s : Int) ≤ (N : Int) := by omega
    replace HX := Lib.hid HX
    replace HY := Lib.hid HY
    clear h1 h2 hs a0 a1 b0 b1 N0 N1 hdl
    go_enter Try.func7, Try.ntmps7
    go_wp2_with fail
    refine (awake11_any _).mono ?_
    rintro e w0 ⟨rfl, BB⟩
    go_wp2_with fail
    refine (HM.out _).mono ?_
    rintro e w1 ⟨q1, c1, rfl, hen, hb⟩
    have k_a := ((blk1 w0 38 #[.int .u64 (a : Int), .int .u64 0, .int .u64 0, .int .u64 0]).alloc (.cells #[.int .u64 (b : Int), .int .u64 0, .int .u64 0, .int .u64 0] 38)).alloc (.cells #[.int .u64 (s : Int), .int .u64 0, .int .u64 0, .int .u64 0] 38)
    have k_b := (blk2 w0 (.cells #[.int .u64 (a : Int), .int .u64 0, .int .u64 0, .int .u64 0] 38) 38 #[.int .u64 (b : Int), .int .u64 0, .int .u64 0, .int .u64 0]).alloc (.cells #[.int .u64 (s : Int), .int .u64 0, .int .u64 0, .int .u64 0] 38)
    have k_s := blk3 w0 (.cells #[.int .u64 (a : Int), .int .u64 0, .int .u64 0, .int .u64 0] 38) (.cells #[.int .u64 (b : Int), .int .u64 0, .int .u64 0, .int .u64 0] 38) 38 #[.int .u64 (s : Int), .int .u64 0, .int .u64 0, .int .u64 0]
    replace BB := BW_alloc (BW_alloc (BW_alloc BB (.cells #[.int .u64 (a : Int), .int .u64 0, .int .u64 0, .int .u64 0] 38)) (.cells #[.int .u64 (b : Int), .int .u64 0, .int .u64 0, .int .u64 0] 38)) (.cells #[.int .u64 (s : Int), .int .u64 0, .int .u64 0, .int .u64 0] 38)
    replace k_a := k_a.on hb
    replace k_b := k_b.on hb
    replace k_s := k_s.on hb
    replace BB := BW_on BB hb
    replace k_a := k_a.on (BW_alloc (BW_refl _) (.cells #[.slice q1 (splitD N).length c1] 32))
    replace k_b := k_b.on (BW_alloc (BW_refl _) (.cells #[.slice q1 (splitD N).length c1] 32))
    replace k_s := k_s.on (BW_alloc (BW_refl _) (.cells #[.slice q1 (splitD N).length c1] 32))
    replace BB := BW_on BB (BW_alloc (BW_refl _) (.cells #[.slice q1 (splitD N).length c1] 32))
    have e_d := Lib.hid (hen.on (BW_alloc (BW_refl _) (.cells #[.slice q1 (splitD N).length c1] 32)))
    have k_d := blk1 w1 32 #[.slice q1 (splitD N).length c1]
    clear hen hb
    have c_a := fun i => k_a.cell i
    have c_b := fun i => k_b.cell i
    have c_s := fun i => k_s.cell i
    have c_d := fun i => k_d.cell i
    go_wp2_with fail
    refine (HX.out _ _ e_d.out).mono ?_
    rintro e w2 ⟨q2, c2, rfl, hen, hb⟩
    clear c_a c_b c_s c_d
    replace k_a := k_a.on hb
    replace k_b := k_b.on hb
    replace k_s := k_s.on hb
    replace k_d := k_d.on hb
    replace e_d := Lib.hid (e_d.out.on hb)
    replace BB := BW_on BB hb
    replace k_a := k_a.on (BW_alloc (BW_refl _) (.cells #[.slice q2 0 c2] 32))
    replace k_b := k_b.on (BW_alloc (BW_refl _) (.cells #[.slice q2 0 c2] 32))
    replace k_s := k_s.on (BW_alloc (BW_refl _) (.cells #[.slice q2 0 c2] 32))
    replace k_d := k_d.on (BW_alloc (BW_refl _) (.cells #[.slice q2 0 c2] 32))
    replace e_d := Lib.hid (e_d.out.on (BW_alloc (BW_refl _) (.cells #[.slice q2 0 c2] 32)))
    replace BB := BW_on BB (BW_alloc (BW_refl _) (.cells #[.slice q2 0 c2] 32))
    have k_x := blk1 w2 32 #[.slice q2 0 c2]
    clear hen hb
    have c_a := fun i => k_a.cell i
    have c_b := fun i => k_b.cell i
    have c_s := fun i => k_s.cell i
    have c_d := fun i => k_d.cell i
    go_wp2_with fail
    refine (HY.out _ _ e_d.out).mono ?_
    rintro e w3 ⟨q3, c3, rfl, hen, hb⟩
    clear c_a c_b c_s c_d
    replace k_a := k_a.on hb
    replace k_b := k_b.on hb
    replace k_s := k_s.on hb
    replace k_d := k_d.on hb
    replace k_x := k_x.on hb
    replace e_d := Lib.hid (e_d.out.on hb)
    replace BB := BW_on BB hb
    replace k_a := k_a.on (BW_alloc (BW_refl _) (.cells #[.slice q3 (splitX N a).length c3] 32))
    replace k_b := k_b.on (BW_alloc (BW_refl _) (.cells #[.slice q3 (splitX N a).length c3] 32))
    replace k_s := k_s.on (BW_alloc (BW_refl _) (.cells #[.slice q3 (splitX N a).length c3] 32))
    replace k_d := k_d.on (BW_alloc (BW_refl _) (.cells #[.slice q3 (splitX N a).length c3] 32))
    replace k_x := k_x.on (BW_alloc (BW_refl _) (.cells #[.slice q3 (splitX N a).length c3] 32))
    replace e_d := Lib.hid (e_d.out.on (BW_alloc (BW_refl _) (.cells #[.slice q3 (splitX N a).length c3] 32)))
    replace BB := BW_on BB (BW_alloc (BW_refl _) (.cells #[.slice q3 (splitX N a).length c3] 32))
    have e_y := Lib.hid (hen.on (BW_alloc (BW_refl _) (.cells #[.slice q3 (splitX N a).length c3] 32)))
    have k_y := blk1 w3 32 #[.slice q3 (splitX N a).length c3]
    clear hen hb
    have c_a := fun i => k_a.cell i
    have c_b := fun i => k_b.cell i
    have c_s := fun i => k_s.cell i
    have c_d := fun i => k_d.cell i
    go_wp2_with fail
    go_ret
    exact ⟨rfl, BB⟩
  · rw [if_neg h1] at HY
    have h1' : ¬ (a : Int) ≤ (N : Int) := by omega
    rw [if_neg h2] at HX
    have h2' : ¬ (s : Int) ≤ (N : Int) := by omega
    replace HX := Lib.hid HX
    replace HY := Lib.hid HY
    clear h1 h2 hs a0 a1 b0 b1 N0 N1 hdl
    go_enter Try.func7, Try.ntmps7
    go_wp2_with fail
    refine (awake11_any _).mono ?_
    rintro e w0 ⟨rfl, BB⟩
    go_wp2_with fail
    refine (HM.out _).mono ?_
    rintro e w1 ⟨q1, c1, rfl, hen, hb⟩
    have k_a := ((blk1 w0 38 #[.int .u64 (a : Int), .int .u64 0, .int .u64 0, .int .u64 0]).alloc (.cells #[.int .u64 (b : Int), .int .u64 0, .int .u64 0, .int .u64 0] 38)).alloc (.cells #[.int .u64 (s : Int), .int .u64 0, .int .u64 0, .int .u64 0] 38)
    have k_b := (blk2 w0 (.cells #[.int .u64 (a : Int), .int .u64 0, .int .u64 0, .int .u64 0] 38) 38 #[.int .u64 (b : Int), .int .u64 0, .int .u64 0, .int .u64 0]).alloc (.cells #[.int .u64 (s : Int), .int .u64 0, .int .u64 0, .int .u64 0] 38)
    have k_s := blk3 w0 (.cells #[.int .u64 (a : Int), .int .u64 0, .int .u64 0, .int .u64 0] 38) (.cells #[.int .u64 (b : Int), .int .u64 0, .int .u64 0, .int .u64 0] 38) 38 #[.int .u64 (s : Int), .int .u64 0, .int .u64 0, .int .u64 0]
    replace BB := BW_alloc (BW_alloc (BW_alloc BB (.cells #[.int .u64 (a : Int), .int .u64 0, .int .u64 0, .int .u64 0] 38)) (.cells #[.int .u64 (b : Int), .int .u64 0, .int .u64 0, .int .u64 0] 38)) (.cells #[.int .u64 (s : Int), .int .u64 0, .int .u64 0, .int .u64 0] 38)
    replace k_a := k_a.on hb
    replace k_b := k_b.on hb
    replace k_s := k_s.on hb
    replace BB := BW_on BB hb
    replace k_a := k_a.on (BW_alloc (BW_refl _) (.cells #[.slice q1 (splitD N).length c1] 32))
    replace k_b := k_b.on (BW_alloc (BW_refl _) (.cells #[.slice q1 (splitD N).length c1] 32))
    replace k_s := k_s.on (BW_alloc (BW_refl _) (.cells #[.slice q1 (splitD N).length c1] 32))
    replace BB := BW_on BB (BW_alloc (BW_refl _) (.cells #[.slice q1 (splitD N).length c1] 32))
    have e_d := Lib.hid (hen.on (BW_alloc (BW_refl _) (.cells #[.slice q1 (splitD N).length c1] 32)))
    have k_d := blk1 w1 32 #[.slice q1 (splitD N).length c1]
    clear hen hb
    have c_a := fun i => k_a.cell i
    have c_b := fun i => k_b.cell i
    have c_s := fun i => k_s.cell i
    have c_d := fun i => k_d.cell i
    go_wp2_with fail
    refine (HX.out _ _ e_d.out).mono ?_
    rintro e w2 ⟨q2, c2, rfl, hen, hb⟩
    clear c_a c_b c_s c_d
    replace k_a := k_a.on hb
    replace k_b := k_b.on hb
    replace k_s := k_s.on hb
    replace k_d := k_d.on hb
    replace e_d := Lib.hid (e_d.out.on hb)
    replace BB := BW_on BB hb
    replace k_a := k_a.on (BW_alloc (BW_refl _) (.cells #[.slice q2 0 c2] 32))
    replace k_b := k_b.on (BW_alloc (BW_refl _) (.cells #[.slice q2 0 c2] 32))
    replace k_s := k_s.on (BW_alloc (BW_refl _) (.cells #[.slice q2 0 c2] 32))
    replace k_d := k_d.on (BW_alloc (BW_refl _) (.cells #[.slice q2 0 c2] 32))
    replace e_d := Lib.hid (e_d.out.on (BW_alloc (BW_refl _) (.cells #[.slice q2 0 c2] 32)))
    replace BB := BW_on BB (BW_alloc (BW_refl _) (.cells #[.slice q2 0 c2] 32))
    have k_x := blk1 w2 32 #[.slice q2 0 c2]
    clear hen hb
    have c_a := fun i => k_a.cell i
    have c_b := fun i => k_b.cell i
    have c_s := fun i => k_s.cell i
    have c_d := fun i => k_d.cell i
    go_wp2_with fail
    refine (HY.out _ _ e_d.out).mono ?_
    rintro e w3 ⟨q3, c3, rfl, hen, hb⟩
    clear c_a c_b c_s c_d
    replace k_a := k_a.on hb
    replace k_b := k_b.on hb
    replace k_s := k_s.on hb
    replace k_d := k_d.on hb
    replace k_x := k_x.on hb
    replace e_d := Lib.hid (e_d.out.on hb)
    replace BB := BW_on BB hb
    replace k_a := k_a.on (BW_alloc (BW_refl _) (.cells #[.slice q3 0 c3] 32))
    replace k_b := k_b.on (BW_alloc (BW_refl _) (.cells #[.slice q3 0 c3] 32))
    replace k_s := k_s.on (BW_alloc (BW_refl _) (.cells #[.slice q3 0 c3] 32))
    replace k_d := k_d.on (BW_alloc (BW_refl _) (.cells #[.slice q3 0 c3] 32))
    replace k_x := k_x.on (BW_alloc (BW_refl _) (.cells #[.slice q3 0 c3] 32))
    replace e_d := Lib.hid (e_d.out.on (BW_alloc (BW_refl _) (.cells #[.slice q3 0 c3] 32)))
    replace BB := BW_on BB (BW_alloc (BW_refl _) (.cells #[.slice q3 0 c3] 32))
    have k_y := blk1 w3 32 #[.slice q3 0 c3]
    clear hen hb
    have c_a := fun i => k_a.cell i
    have c_b := fun i => k_b.cell i
    have c_s := fun i => k_s.cell i
    have c_d := fun i => k_d.cell i
    go_wp2_with fail
    go_ret
    exact ⟨rfl, BB⟩
end
set_option maxRecDepth 100000 in
theorem l11split_lifted (os : Os) (started : os.Started) (H : Type) (enc : TypeId × Value → H) :
    ReturnsInHanded {} Try.checked os 7 .any (Rows.bankSplitSpec.pre6 enc Try.prog Try.f7 Rows.bankSplitRow.domain false) (Rows.bankSplitSpec.post enc Try.prog Try.f7 false true false false) := by
  refine law_lifted (C := Try.checked) (tb := 4) (by kernel_rfl) started (by kernel_rfl) Try.func7
    (ChangeSpec.witness6 (enc := enc) (C := Try.checked) false ⟨#[], #[.int .u64 0, .int .u64 0, .int .u64 0], []⟩ 8 (by kernel_rfl) (by kernel_rfl) (by kernel_rfl) (by kernel_rfl))
    (by kernel_rfl) (by kernel_rfl) (by kernel_rfl) Try.underlying4 rfl ?_ ?_
  · intro ds hd
    have hp : Try.f7.params.toList.length = 3 := by kernel_rfl
    rw [hp] at hd
    match ds, hd with
    | [d, d', d''], _ => rfl
  · intro W base args ds ps hval hA _ _
    have hval' : ∀ (j : Nat) t v, Try.f7.params[j]? = some t → args[j]? = some v → Value.okWide Try.prog W .any base t v := hval
    have hA' : DataW.TrodAll enc Try.prog W 0 (fun _ => true) true Try.f7.params.toList args.toList ds ps := hA
    rw [Try.params7] at hA' hval'
    obtain ⟨v0, v1, v2, d0, d1, d2, p0, p1, p2, rfl, rfl, rfl, h0, h1, h2⟩ := trodAll_three hA'
    obtain ⟨n0, rfl, _⟩ := open_int Try.underlying35 (hval' 0 35 v0 rfl rfl) h0
    obtain ⟨n1, rfl, _⟩ := open_int Try.underlying35 (hval' 1 35 v1 rfl rfl) h1
    obtain ⟨n2, rfl, _⟩ := open_int Try.underlying35 (hval' 2 35 v2 rfl rfl) h2
    exact l11split_any n0 n1 n2 W
theorem BankSplit_holds : Rows.BankSplitSaid :=
  OpenClaim.holds_of_wide 7 Try.f7 rfl rfl rfl rfl rfl rfl rfl ⟨rfl, rfl, rfl, rfl, rfl⟩ rfl rfl rfl rfl rfl (by kernel_rfl) Try.func7 (by kernel_rfl)
    (of_decide_eq_true (by kernel_rfl)) (by unfold Func.isWrapper; first | (rw [if_pos (by decide +kernel)]; kernel_rfl) | (rw [if_neg (by decide +kernel)]; exact ⟨rfl, rfl⟩))
    (fun os started H enc _ => l11split_lifted os started H enc)
end Go.Proofs.Ytbimnfmjgmfijaa

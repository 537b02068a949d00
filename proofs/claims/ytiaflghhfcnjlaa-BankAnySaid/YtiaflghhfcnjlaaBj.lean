/- The bank laws' example and cut of texts. -/
import Derived.Test.YtiaflghhfcnjlaaBe
import Derived.Test.YtiaflghhfcnjlaaBf
namespace Go.Proofs.Ytiaflghhfcnjlaa
open Go.RowKit
attribute [local go_sem ↓] Go.wp_at_zero Go.wp_at_succ
set_option maxHeartbeats 2000000 in
set_option maxRecDepth 100000 in
theorem awake11_any (w : World) : Calls Try.prog 6 #[] w fun e w' => e = .returned (.bool true) ∧ Below w.heap.size w w' := by
  obtain ⟨l50, l51, l52, l53⟩ := limb_small (n := 5) (by decide)
  obtain ⟨l30, l31, l32, l33⟩ := limb_small (n := 3) (by decide)
  obtain ⟨l40, l41, l42, l43⟩ := limb_small (n := 4) (by decide)
  have i1 := mint_inv (List.Pairwise.nil : Srt []) ba bx 5
  have i2 := move_inv i1.1 ba bb bx 3
  have hl1 : A11.length ≤ 2 := i1.2
  have hl2 : B11.length ≤ 4 := by have : B11.length ≤ A11.length + 2 := i2.2; omega
  have s1 : Srt A11 := i1.1
  have s2 : Srt B11 := i2.1
  have H1 := fun w => bmint_any (.slice none 0 0) [] ba bx 5 w (Ents.nil w) List.Pairwise.nil (by decide) (W256.small (by decide))
  rw [show mintL [] ba bx 5 = (0, A11) from Prod.ext aw1 rfl, l50, l51, l52, l53] at H1
  have H2 := fun v w hv => bmove_any v A11 ba bb bx 3 w hv s1 (by omega) (W256.small (by decide))
  rw [show moveL A11 ba bb bx 3 = (0, B11) from Prod.ext aw2 rfl, l30, l31, l32, l33] at H2
  have H3 := fun v w hv => bburn_any v B11 bb bx 4 w hv s2 (by omega) (W256.small (by decide))
  rw [show burnL B11 bb bx 4 = (16, []) from Prod.ext aw3 aw3n, l40, l41, l42, l43] at H3
  have H4 := fun v w hv => bbal_any v B11 ba bx w hv s2 (by omega) (by decide) (by decide)
  rw [aw4, show wv 2 = .agg #[.int .u64 2, .int .u64 0, .int .u64 0, .int .u64 0] from wv_small (n := 2) (by decide)] at H4
  have H5 := fun v w hv => bbal_any v B11 bb bx w hv s2 (by omega) (by decide) (by decide)
  rw [aw5, show wv 3 = .agg #[.int .u64 3, .int .u64 0, .int .u64 0, .int .u64 0] from wv_small (n := 3) (by decide)] at H5
  have H1 := Lib.hid H1
  have H2 := Lib.hid H2
  have H3 := Lib.hid H3
  have H4 := Lib.hid H4
  have H5 := Lib.hid H5
  clear i1 i2 hl1 hl2 s1 s2 l40 l41 l42 l43 l50 l51 l52 l53
  generalize A11 = A at *
  generalize B11 = B at *
  go_enter Try.func6, Try.ntmps6
  go_wp2_with fail
  refine (H1.out _).mono ?_
  rintro e w1 ⟨q1, c1, rfl, hen1, hb1⟩
  replace hb1 := BW_alloc hb1 (.cells #[.slice q1 A.length c1] 26)
  have Hen1 := Lib.hid (hen1.on (BW_alloc (BW_refl _) (.cells #[.slice q1 A.length c1] 26)))
  have k1 := blk1 w1 26 #[.slice q1 A.length c1]
  have cc1 := fun i => k1.cell i
  clear hen1
  go_wp2_with fail
  refine (H2.out _ _ Hen1.out).mono ?_
  rintro e w2 ⟨q2, c2, rfl, hen2, hb2⟩
  replace hb1 := BW_alloc (BW_on hb1 hb2) (.cells #[.slice q2 B.length c2] 26)
  have Hen2 := Lib.hid (hen2.on (BW_alloc (BW_refl _) (.cells #[.slice q2 B.length c2] 26)))
  have k2 := blk1 w2 26 #[.slice q2 B.length c2]
  have cc2 := fun i => k2.cell i
  clear hen2 hb2 k1 cc1
  go_wp2_with fail
  refine (H3.out _ _ Hen2.out).mono ?_
  rintro e w3 ⟨q3, c3, rfl, hen3, hb3⟩
  replace hb1 := BW_alloc (BW_on hb1 hb3) (.cells #[.slice q3 0 c3] 26)
  replace Hen2 := Lib.hid ((Hen2.out.on hb3).on (BW_alloc (BW_refl _) (.cells #[.slice q3 0 c3] 26)))
  replace k2 := (k2.on hb3).alloc (.cells #[.slice q3 0 c3] 26)
  clear cc2
  have cc2 := fun i => k2.cell i
  clear hen3 hb3
  go_wp2_with fail
  refine (H4.out _ _ Hen2.out).mono ?_
  rintro e w4 ⟨rfl, hb4⟩
  replace hb1 := BW_alloc (BW_on hb1 hb4) (.cells #[.int .u64 2, .int .u64 0, .int .u64 0, .int .u64 0] 33)
  replace Hen2 := Lib.hid ((Hen2.out.on hb4).on (BW_alloc (BW_refl _) (.cells #[.int .u64 2, .int .u64 0, .int .u64 0, .int .u64 0] 33)))
  replace k2 := (k2.on hb4).alloc (.cells #[.int .u64 2, .int .u64 0, .int .u64 0, .int .u64 0] 33)
  have k4 := blk1 w4 33 #[.int .u64 2, .int .u64 0, .int .u64 0, .int .u64 0]
  clear cc2 hb4
  have cc2 := fun i => k2.cell i
  go_wp2_with fail
  refine (H5.out _ _ Hen2.out).mono ?_
  rintro e w5 ⟨rfl, hb5⟩
  replace hb1 := BW_alloc (BW_on hb1 hb5) (.cells #[.int .u64 3, .int .u64 0, .int .u64 0, .int .u64 0] 33)
  replace k4 := (k4.on hb5).alloc (.cells #[.int .u64 3, .int .u64 0, .int .u64 0, .int .u64 0] 33)
  have k5 := blk1 w5 33 #[.int .u64 3, .int .u64 0, .int .u64 0, .int .u64 0]
  clear cc2 hb5 k2
  have cc4 := k4.cell 0
  have cc5 := k5.cell 0
  go_wp2_with fail
  go_ret
  exact ⟨rfl, hb1⟩
theorem short11_any (s : ByteArray) (n : Nat) (w : World) : Calls Try.prog 14 #[.string s, .int .i64 (n : Int)] w fun e w' => e = .returned (.string (shN s n)) ∧ w = w' := by
  by_cases h : n < s.size
  · have e : shN s n = s.extract 0 n := if_pos h
    have h1 : (n : Int) < (s.size : Int) := by omega
    have h2 : (n : Int) ≤ (s.size : Int) := by omega
    rw [e]
    clear h e
    go_enter Try.func14, Try.ntmps14
    go_wp2_with fail
    go_ret
    exact ⟨by first | rfl | simp, rfl⟩
  · have e : shN s n = s := if_neg h
    have h1 : ¬ (n : Int) < (s.size : Int) := by omega
    rw [e]
    clear h e
    go_enter Try.func14, Try.ntmps14
    go_wp2_with fail
    go_ret
    exact ⟨rfl, rfl⟩
end Go.Proofs.Ytiaflghhfcnjlaa

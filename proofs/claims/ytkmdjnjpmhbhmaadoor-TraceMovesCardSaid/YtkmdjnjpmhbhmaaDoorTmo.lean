/- The law TraceMoves's walk. -/
import Derived.Test.YtkmdjnjpmhbhmaaDoorTg
namespace Go.Proofs.YtkmdjnjpmhbhmaaDoor
open Go.RowKit
attribute [local go_sem ↓] Go.wp_at_zero Go.wp_at_succ
set_option maxHeartbeats 4000000 in
set_option maxRecDepth 100000 in
theorem l12moves_any (s0 s1 : ByteArray) (own : Bool) (w : World) : Calls Tryd.prog 5 #[.string s0, .string s1, .bool own] w fun e w' => e = .returned (.bool true) ∧ Below w.heap.size w w' := by
  have hc := shN_size s0 40
  have hd := shN_size s1 210
  obtain ⟨t1, h1, a1⟩ := cat_big (shN s0 40) ⟨#[47]⟩ (by show (shN s0 40).size + 1 ≤ _; omega)
  have z1 : t1.size = (shN s0 40).size + 1 := by rw [← bysN_len, h1, List.length_append, bysN_len]; rfl
  obtain ⟨t2, h2, a2⟩ := cat_big t1 (shN s1 210) (by omega)
  have z2 : t2.size = (shN s0 40).size + 1 + (shN s1 210).size := by rw [← bysN_len, h2, List.length_append, bysN_len, bysN_len, z1]
  obtain ⟨d, hdd⟩ : ∃ d, (if own = true then t2 else shN s1 210) = d := ⟨_, rfl⟩
  have zd : d.size ≤ 251 := by rw [← hdd]; split <;> omega
  obtain ⟨t3, h3, a3⟩ := cat_big t1 d (by omega)
  obtain ⟨t4, h4, a4⟩ := cat_big ⟨#[101, 115, 99, 114, 111, 119, 47]⟩ (shN s0 40) (by show 7 + (shN s0 40).size ≤ _; omega)
  have P3 : Hid (∀ t, bysN t = bysN (shN s0 40) ++ 47 :: bysN d → t = t3) := Lib.hid (fun t h => bysN_inj (by rw [h, h3, h1, List.append_assoc]; rfl))
  have P4 : Hid (∀ t, bysN t = [101, 115, 99, 114, 111, 119, 47] ++ bysN (shN s0 40) → t = t4) := Lib.hid (fun t h => bysN_inj (by rw [h, h4]; rfl))
  have H23 : Hid (shN s1 210 = d → t3 = t2) := Lib.hid (fun h => bysN_inj (by rw [h3, h2, h]))
  clear h1 h2 h3 h4
  generalize hcc : shN s0 40 = c at *
  have Hcc := Bx9.mk hcc
  clear hcc
  obtain ⟨pv, hpv⟩ : ∃ pv, okRet (bysN c) (bysN d) = pv := ⟨_, rfl⟩
  have Hpv := Lib.hid hpv
  clear hpv
  go_enter Tryd.func5, Tryd.ntmps5
  cases own
  · obtain rfl : shN s1 210 = d := hdd
    obtain rfl := H23.out rfl
    go_wp2_with (first
      | (go_at_call 25; refine (awake12_any _).mono ?_; rintro e w1 ⟨rfl, hb1⟩)
      | (go_at_call 26; first | (have := fl1; refine (short12_any s1 210 _).mono ?_; rintro e w2 ⟨rfl, rfl⟩) | (refine (short12_any s0 40 _).mono ?_; rintro e w2 ⟨rfl, rfl⟩; rw [Hcc.out]; have fl1 := True.intro))
      | (go_at_call 27; refine (returns_any c _ _ (by omega) (by omega)).mono ?_; rintro e w2 ⟨t5, rfl, ht5, hb2⟩; rw [Hpv.out])
      | (go_at_call 28; refine (r12returns_any c _ _ (by omega) (by omega)).mono ?_; rintro e w3 ⟨t6, rfl, ht6, hb3⟩; rw [Hpv.out]; obtain rfl := bysN_inj (ht6.trans ht5.symm))
      | (go_at_call 29; refine (prefix_any c _ _ (by omega) (by omega)).mono ?_; rintro e w' ⟨t, rfl, ht, rfl⟩; obtain rfl := P3.out t ht)
      | (go_at_call 30; refine (escrow_any c _ (by omega)).mono ?_; rintro e w' ⟨t, rfl, ht, rfl⟩; obtain rfl := P4.out t ht))
    go_ret
    exact ⟨rfl, BW_on (BW_on hb1 hb2) hb3⟩
  · obtain rfl : t2 = d := hdd
    go_wp2_with (first
      | (go_at_call 25; refine (awake12_any _).mono ?_; rintro e w1 ⟨rfl, hb1⟩)
      | (go_at_call 26; first | (have := fl1; refine (short12_any s1 210 _).mono ?_; rintro e w2 ⟨rfl, rfl⟩) | (refine (short12_any s0 40 _).mono ?_; rintro e w2 ⟨rfl, rfl⟩; rw [Hcc.out]; have fl1 := True.intro))
      | (go_at_call 27; refine (returns_any c _ _ (by omega) (by omega)).mono ?_; rintro e w2 ⟨t5, rfl, ht5, hb2⟩; rw [Hpv.out])
      | (go_at_call 28; refine (r12returns_any c _ _ (by omega) (by omega)).mono ?_; rintro e w3 ⟨t6, rfl, ht6, hb3⟩; rw [Hpv.out]; obtain rfl := bysN_inj (ht6.trans ht5.symm))
      | (go_at_call 29; refine (prefix_any c _ _ (by omega) (by omega)).mono ?_; rintro e w' ⟨t, rfl, ht, rfl⟩; obtain rfl := P3.out t ht)
      | (go_at_call 30; refine (escrow_any c _ (by omega)).mono ?_; rintro e w' ⟨t, rfl, ht, rfl⟩; obtain rfl := P4.out t ht))
    go_ret
    exact ⟨rfl, BW_on (BW_on hb1 hb2) hb3⟩
end Go.Proofs.YtkmdjnjpmhbhmaaDoor

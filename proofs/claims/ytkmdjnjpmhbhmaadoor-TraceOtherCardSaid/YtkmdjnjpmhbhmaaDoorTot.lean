/- The law TraceOther's walk. -/
import Derived.Test.YtkmdjnjpmhbhmaaDoorTg
namespace Go.Proofs.YtkmdjnjpmhbhmaaDoor
open Go.RowKit
attribute [local go_sem ↓] Go.wp_at_zero Go.wp_at_succ
set_option maxHeartbeats 4000000 in
set_option maxRecDepth 100000 in
theorem l12other_any (a b : Int) (w : World) : Calls Tryd.prog 6 #[.int .i64 a, .int .i64 b] w fun e w' => e = .returned (.bool true) ∧ Below w.heap.size w w' := by
  have hna := wordL_ns a
  have hnb := wordL_ns b
  have hla := (wordL_len a).2
  have hlb := (wordL_len b).2
  have hpa := okPart_word a
  have HH := Lib.hid (And.intro hna (And.intro hnb (And.intro hla (And.intro hlb hpa))))
  clear hna hnb hla hlb hpa
  go_enter Tryd.func6, Tryd.ntmps6
  go_wp2_with (first
    | (go_at_call 25; refine (awake12_any _).mono ?_; rintro e w1 ⟨rfl, hb1⟩)
    | (go_at_call 31; refine (word_any _ _).mono ?_; first | (have := fl1; skip) | (rintro e w2 ⟨x, rfl, hx, hb2⟩; have fl1 := True.intro)))
  rintro e w3 ⟨y, rfl, hy, hb3⟩
  obtain ⟨hna, hnb, hla, hlb, hpa⟩ := HH.out
  rw [← hx] at hna hla hpa
  rw [← hy] at hnb hlb
  rw [bysN_len] at hla hlb
  have hbB := BW_on (BW_on hb1 hb2) hb3
  have hpe : Hid (∀ t, bysN t = [101, 115, 99, 114, 111, 119, 47] ++ bysN x → okPart (bysN t) = false) := Lib.hid (fun t h => okPart_slash (by rw [h]; simp))
  have hps : Hid (∀ (t u : ByteArray), bysN t = [101, 115, 99, 114, 111, 119, 47] ++ bysN u → u.size ≤ 4 → t.size ≤ 11) := Lib.hid (fun t u h h4 => by rw [← bysN_len t, h, List.length_append, bysN_len]; show 7 + u.size ≤ 11; omega)
  have hqs : Hid (∀ t, bysN t = bysN y ++ 47 :: bysN ⟨#[120]⟩ → t.size ≤ 6) := Lib.hid (fun t h => by rw [← bysN_len t, h, List.length_append, bysN_len]; show y.size + 2 ≤ 6; omega)
  have hr : Hid (∀ t, bysN t = bysN y ++ 47 :: bysN ⟨#[120]⟩ → okRet (bysN x) (bysN t) = decide (bysN x = bysN y)) := Lib.hid (fun t h => by rw [h]; exact okRet_word hna hnb)
  have Hpa := Lib.hid hpa
  clear hna hnb hpa hx hy HH
  by_cases hxy : x = y
  · subst hxy
    have hr1 : Hid (∀ t, bysN t = bysN x ++ 47 :: bysN ⟨#[120]⟩ → okRet (bysN x) (bysN t) = true) := Lib.hid (fun t h => by rw [hr.out t h]; exact decide_eq_true rfl)
    go_wp2_with (first
      | (go_at_call 29; refine (prefix_any x _ _ (by omega) (by decide)).mono ?_; rintro e w' ⟨t, rfl, ht, rfl⟩; have zt := hqs.out t ht; have hrt := hr1.out t ht)
      | (go_at_call 27; refine (returns_any x _ _ (by omega) (by omega)).mono ?_; rintro e w4 ⟨t5, rfl, _, hb4⟩; rw [hrt])
      | (go_at_call 32; refine (part_any _ _ (by omega)).mono ?_; first | (have := fl2; rintro e w9 ⟨rfl, hb9⟩; rw [hpt8]) | (rintro e w5 ⟨rfl, hb5⟩; rw [Hpa.out]; have fl2 := True.intro))
      | (go_at_call 30; refine (escrow_any _ _ (by omega)).mono ?_; first
          | (have := ht7; rintro e w' ⟨t8, rfl, ht8, rfl⟩; obtain rfl := bysN_inj (ht8.trans ht7.symm); try have hpt8 := hpe.out _ ht8; try have zt8 := hps.out _ _ ht8 (by omega))
          | (rintro e w' ⟨t7, rfl, ht7, rfl⟩; have hpt8 := hpe.out _ ht7; have zt8 := hps.out _ _ ht7 (by omega))))
    go_ret
    exact ⟨rfl, BW_on (BW_on (BW_on hbB hb4) hb5) hb9⟩
  · have hxb : Hid ((x.toList == y.toList) = false) := Lib.hid (by rw [toList_beq]; exact decide_eq_false (fun h => hxy (bysN_inj h)))
    have hxn : Hid (bysN x ≠ bysN y) := Lib.hid (fun h => hxy (bysN_inj h))
    have hxc := hxb.out
    have hr1 : Hid (∀ t, bysN t = bysN y ++ 47 :: bysN ⟨#[120]⟩ → okRet (bysN x) (bysN t) = false) := Lib.hid (fun t h => by rw [hr.out t h]; exact decide_eq_false hxn.out)
    go_wp2_with (first
      | (go_at_call 29; refine (prefix_any y _ _ (by omega) (by decide)).mono ?_; rintro e w' ⟨t, rfl, ht, rfl⟩; have zt := hqs.out t ht; have hrt := hr1.out t ht)
      | (go_at_call 27; refine (returns_any x _ _ (by omega) (by omega)).mono ?_; rintro e w4 ⟨t5, rfl, _, hb4⟩; rw [hrt])
      | (go_at_call 32; refine (part_any _ _ (by omega)).mono ?_; first | (have := fl2; rintro e w9 ⟨rfl, hb9⟩; rw [hpt9]) | (rintro e w5 ⟨rfl, hb5⟩; rw [Hpa.out]; have fl2 := True.intro))
      | (go_at_call 30; refine (escrow_any _ _ (by omega)).mono ?_; first
          | (have := fl4; rintro e w' ⟨t9, rfl, ht9, rfl⟩; have hpt9 := hpe.out _ ht9; have zt9 := hps.out _ _ ht9 (by omega))
          | (have := fl3; rintro e w' ⟨t8, rfl, ht8, rfl⟩; have hbq : (t7.toList == t8.toList) = false := (by rw [toList_beq, ht7, ht8]; exact decide_eq_false (fun h => hxn.out (List.append_cancel_left h))); have fl4 := True.intro)
          | (rintro e w' ⟨t7, rfl, ht7, rfl⟩; have fl3 := True.intro)))
    go_ret
    exact ⟨rfl, BW_on (BW_on (BW_on hbB hb4) hb5) hb9⟩
end Go.Proofs.YtkmdjnjpmhbhmaaDoor

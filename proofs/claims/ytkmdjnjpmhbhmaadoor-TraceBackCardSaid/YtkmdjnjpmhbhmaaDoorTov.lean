/- The law TraceOver's walk. -/
import Derived.Test.YtkmdjnjpmhbhmaaDoorTh
namespace Go.Proofs.YtkmdjnjpmhbhmaaDoor
open Go.RowKit
attribute [local go_sem ↓] Go.wp_at_zero Go.wp_at_succ
theorem words_wd (L : List Int) : ∀ x ∈ L.map wordL, Wd x := by
  intro x hx
  obtain ⟨n, _, rfl⟩ := List.mem_map.1 hx
  exact wd_word n
theorem ovw_len (L : List Int) (k : Nat) (hk : k ≤ L.length) : ((L.take k).map wordL).length = k := by rw [List.length_map, List.length_take]; omega
theorem ovw_succ (L : List Int) (k : Nat) (hk : k < L.length) : (L.take (k + 1)).map wordL = (L.take k).map wordL ++ [wordL L[k]] := by rw [List.take_succ_eq_append_getElem hk, List.map_append]; rfl
theorem over_step (L : List Int) (k : Nat) (hk : k < L.length) (h4 : k < 4) (T : ByteArray) (hT : bysN T = over ((L.take k).map wordL)) (T2 : ByteArray) (h : bysN T2 = wordL L[k] ++ 47 :: bysN T) :
    bysN T2 = over ((L.take (k + 1)).map wordL) ∧ okDen (bysN T2) = true ∧ ((pHops (bysN T2) : Nat) : Int) = (k : Int) + 1 ∧ pBase (bysN T2) = [120] ∧ T2.size ≤ 35 := by
  have h1 : bysN T2 = over ((L.take (k + 1)).map wordL) := by rw [h, hT, ovw_succ L k hk, over_snoc]
  have hw := words_wd (L.take (k + 1))
  have hl := ovw_len L (k + 1) hk
  refine ⟨h1, ?_, ?_, ?_, ?_⟩
  · rw [h1, over_ok hw, hl]; exact decide_eq_true (by omega)
  · rw [h1, over_hops hw (by omega), hl]; rfl
  · rw [h1, over_base hw (by omega)]
  · rw [← bysN_len, h1]; have := over_len hw; omega
theorem over_back (L : List Int) (m : Nat) (hm : m < L.length) (h4 : m < 4) (T : ByteArray) (hT : bysN T = over ((L.take (m + 1)).map wordL)) (t : ByteArray) (ht : bysN t = wordL L[m]) :
    okRet (bysN t) (bysN T) = true ∧ pRet (bysN t) (bysN T) = over ((L.take m).map wordL) ∧ ((pHops (over ((L.take m).map wordL)) : Nat) : Int) = (m : Int) ∧ (over ((L.take m).map wordL)).length ≤ 35 := by
  have hw := words_wd (L.take m)
  have hl := ovw_len L m (by omega)
  have hok : okDen (over ((L.take m).map wordL)) = true := by rw [over_ok hw, hl]; exact decide_eq_true (by omega)
  rw [hT, ovw_succ L m hm, over_snoc, ht, okRet_self, pRet_self, hok]
  refine ⟨rfl, rfl, ?_, ?_⟩
  · rw [over_hops hw (by omega), hl]
  · have := over_len hw; omega
theorem over_full (L : List Int) (h4 : 4 ≤ L.length) (T : ByteArray) (hT : bysN T = over ((L.take 4).map wordL)) (T2 : ByteArray) (h : bysN T2 = bysN ⟨#[99]⟩ ++ 47 :: bysN T) : okDen (bysN T2) = false := by
  rw [h, hT, show bysN ⟨#[99]⟩ = [99] from rfl, ← over_snoc, over_ok, List.length_append, ovw_len L 4 h4]
  · rfl
  · intro x hx
    rcases List.mem_append.1 hx with hx | hx
    · exact words_wd _ x hx
    · simp at hx; subst hx; exact ⟨by simp, by simp, by simp⟩
set_option maxHeartbeats 4000000 in
set_option maxRecDepth 100000 in
theorem l12over_any (v : Value) (L : List Int) (w : World) (hv : Hid (Ints w v L)) (hl : L.length ≤ 9223372036854775807) : Calls Tryd.prog 7 #[v] w fun e w' => e = .returned (.bool true) ∧ Below w.heap.size w w' := by
  obtain ⟨p, cap, rfl, hf⟩ := hv.out
  have Hf := Lib.hid hf
  clear hf hv
  go_enter Tryd.func7, Tryd.ntmps7
  go_wp2_with (go_at_call 25; refine (awake12_any _).mono ?_; rintro e w1 ⟨rfl, hb1⟩)
  go_loopw [4, 5, 6] (fun d n i wr => ∃ (k : Nat) (T : ByteArray), k ≤ L.length ∧ k ≤ 4 ∧ i = .int .i64 (k : Int) ∧ n = .int .i64 (k : Int) ∧ d = .string T ∧ Hid (bysN T = over ((L.take k).map wordL)) ∧ T.size ≤ 35 ∧ Below w.heap.size w wr) (fun _ _ i _ => 4 - (intOf i).toNat)
  case atStart => exact ⟨0, ⟨#[120]⟩, by omega, by omega, rfl, rfl, rfl, Lib.hid rfl, by decide, hb1⟩
  case round =>
    obtain ⟨k, T, hk, hk4, rfl, rfl, rfl, hT, hTs, hb⟩ := hrel
    by_cases hlt : k < L.length ∧ k < 4
    · obtain ⟨hlt, hlt4⟩ := hlt
      obtain ⟨g, off, rfl, hc⟩ := Hf.out (by omega)
      have hc1 := BW_cell hb (hc k hlt)
      have hk1 : (k : Int) < (L.length : Int) := by omega
      have hk2 : (k : Int) < 4 := by omega
      have hw1 : wrap64 ((k : Int) + 1) = (k : Int) + 1 := by unfold wrap64; omega
      have F := Lib.hid (over_step L k hlt hlt4 T hT.out)
      clear hc Hf
      generalize L[k] = z at *
      go_wp2_with (first
        | (go_at_call 31; refine (word_any z _).mono ?_; rintro e w2 ⟨t, rfl, ht, hb2⟩; have zt : t.size ≤ 4 := (by have := (wordL_len z).2; rw [← ht, bysN_len] at this; exact this))
        | (go_at_call 29; refine (prefix_any t T _ (by omega) (by omega)).mono ?_; rintro e w' ⟨T2, rfl, hT2, rfl⟩; rw [ht] at hT2; obtain ⟨f1, f2, f3, f4, f5⟩ := F.out T2 hT2; have F1 := Lib.hid f1; have F2 := Lib.hid f2; have F3 := Lib.hid f3; have F4 := Lib.hid f4; clear f1 f2 f3 f4 ht hT2)
        | (go_at_call 33; refine (check_any T2 _ (by omega)).mono ?_; rintro e w3 ⟨rfl, hb3⟩; rw [F2.out])
        | (go_at_call 34; refine (hops_any T2 _ (by omega)).mono ?_; rintro e w4 ⟨rfl, hb4⟩; rw [F3.out])
        | (go_at_call 35; refine (base_any T2 _ (by omega)).mono ?_; rintro e w5 ⟨tb, rfl, htb, hb5⟩; obtain rfl : tb = ⟨#[120]⟩ := bysN_inj (htb.trans F4.out)))
      go_roundw
      case rel => exact ⟨k + 1, T2, by omega, by omega, by go_num, by go_num, rfl, F1, f5, BW_on (BW_on (BW_on (BW_on hb hb2) hb3) hb4) hb5⟩
      case measure => simp [intOf]; omega
    · clear hb1
      by_cases hk0 : k < L.length
      · obtain rfl : k = 4 := by omega
        have hk1 : ((4 : Nat) : Int) < (L.length : Int) := by omega
        have F := Lib.hid (over_full L (by omega) T hT.out)
        go_wp2_with (first
          | (go_at_call 29; refine (prefix_any ⟨#[99]⟩ T _ (by decide) (by omega)).mono ?_; rintro e w' ⟨T2, rfl, hT2, rfl⟩; have F2 := Lib.hid (F.out T2 hT2); have zt2 : T2.size ≤ 40 := (by rw [← bysN_len, hT2, List.length_append, List.length_cons, bysN_len, bysN_len]; show 1 + (T.size + 1) ≤ 40; omega))
          | (go_at_call 33; refine (check_any T2 _ (by omega)).mono ?_; rintro e w3 ⟨rfl, hb3⟩; rw [F2.out]))
        have BB := BW_on hb hb3
        go_loopw [4, 7, 8, 9] (fun d i _ _ wr => ∃ (j : Nat) (T : ByteArray), j ≤ 4 ∧ i = .int .i64 ((j : Int) - 1) ∧ d = .string T ∧ Hid (bysN T = over ((L.take j).map wordL)) ∧ T.size ≤ 35 ∧ Below w.heap.size w wr) (fun _ i _ _ _ => (intOf i + 1).toNat)
        case atStart => exact ⟨4, T, by omega, rfl, rfl, hT, hTs, BB⟩
        case round =>
          clear hT hTs hb
          obtain ⟨j, T, hj, rfl, rfl, hT, hTs, hb⟩ := hrel
          by_cases hj0 : 0 < j
          · obtain ⟨m, rfl⟩ : ∃ m, j = m + 1 := ⟨j - 1, by omega⟩
            rw [show ((m + 1 : Nat) : Int) - 1 = (m : Int) from by omega]
            obtain ⟨g, off, rfl, hc⟩ := Hf.out (by omega)
            have hm : m < L.length := by omega
            have hc1 := BW_cell hb (hc m hm)
            have hk1 : (m : Int) < (L.length : Int) := by omega
            have hm0 : 0 ≤ (m : Int) := by omega
            have hw1 : wrap64 ((m : Int) - 1) = (m : Int) - 1 := by unfold wrap64; omega
            have F := Lib.hid (over_back L m hm (by omega) T hT.out)
            clear hc Hf
            generalize L[m] = z at *
            go_wp2_with (first
              | (go_at_call 31; refine (word_any z _).mono ?_; rintro e w2 ⟨t, rfl, ht, hb2⟩; have zt : t.size ≤ 4 := (by have := (wordL_len z).2; rw [← ht, bysN_len] at this; exact this); obtain ⟨f1, f2, f3, f4⟩ := F.out t ht; have F1 := Lib.hid f1; have F2 := Lib.hid f2; have F3 := Lib.hid f3; clear f1 f2 f3 ht)
              | (go_at_call 27; refine (returns_any t T _ (by omega) (by omega)).mono ?_; rintro e w3 ⟨r, rfl, hr, hb3⟩; rw [F1.out]; rw [F2.out] at hr; have zr : r.size ≤ 35 := (by rw [← bysN_len, hr]; exact f4); have Hr := Lib.hid hr; clear hr)
              | (go_at_call 34; refine (hops_any r _ (by omega)).mono ?_; rintro e w4 ⟨rfl, hb4⟩; rw [Hr.out, F3.out]))
            go_roundw
            case rel => exact ⟨m, r, by omega, rfl, rfl, Hr, zr, BW_on (BW_on (BW_on hb hb2) hb3) hb4⟩
            case measure => simp [intOf]
          · obtain rfl : j = 0 := by omega
            obtain rfl : T = ⟨#[120]⟩ := bysN_inj (hT.out.trans rfl)
            rw [show ((0 : Nat) : Int) - 1 = -1 from by omega]
            go_wp2_with fail
            go_ret
            exact ⟨rfl, hb⟩
      · obtain rfl : k = L.length := by omega
        by_cases h4 : L.length = 4
        · have hk1 : ¬ ((4 : Nat) : Int) < (L.length : Int) := by omega
          have h4i : (L.length : Int) = 4 := by omega
          rw [h4] at hT
          have F := Lib.hid (over_full L (by omega) T hT.out)
          go_wp2_with (first
            | (go_at_call 29; refine (prefix_any ⟨#[99]⟩ T _ (by decide) (by omega)).mono ?_; rintro e w' ⟨T2, rfl, hT2, rfl⟩; have F2 := Lib.hid (F.out T2 hT2); have zt2 : T2.size ≤ 40 := (by rw [← bysN_len, hT2, List.length_append, List.length_cons, bysN_len, bysN_len]; show 1 + (T.size + 1) ≤ 40; omega))
            | (go_at_call 33; refine (check_any T2 _ (by omega)).mono ?_; rintro e w3 ⟨rfl, hb3⟩; rw [F2.out]))
          have BB := BW_on hb hb3
          go_loopw [4, 7, 8, 9] (fun d i _ _ wr => ∃ (j : Nat) (T : ByteArray), j ≤ 4 ∧ i = .int .i64 ((j : Int) - 1) ∧ d = .string T ∧ Hid (bysN T = over ((L.take j).map wordL)) ∧ T.size ≤ 35 ∧ Below w.heap.size w wr) (fun _ i _ _ _ => (intOf i + 1).toNat)
          case atStart => exact ⟨4, T, by omega, by rfl, rfl, hT, hTs, BB⟩
          case round =>
            clear hT hTs hb
            obtain ⟨j, T, hj, rfl, rfl, hT, hTs, hb⟩ := hrel
            by_cases hj0 : 0 < j
            · obtain ⟨m, rfl⟩ : ∃ m, j = m + 1 := ⟨j - 1, by omega⟩
              rw [show ((m + 1 : Nat) : Int) - 1 = (m : Int) from by omega]
              obtain ⟨g, off, rfl, hc⟩ := Hf.out (by omega)
              have hm : m < L.length := by omega
              have hc1 := BW_cell hb (hc m hm)
              have hk1 : (m : Int) < (L.length : Int) := by omega
              have hm0 : 0 ≤ (m : Int) := by omega
              have hw1 : wrap64 ((m : Int) - 1) = (m : Int) - 1 := by unfold wrap64; omega
              have F := Lib.hid (over_back L m hm (by omega) T hT.out)
              clear hc Hf
              generalize L[m] = z at *
              go_wp2_with (first
                | (go_at_call 31; refine (word_any z _).mono ?_; rintro e w2 ⟨t, rfl, ht, hb2⟩; have zt : t.size ≤ 4 := (by have := (wordL_len z).2; rw [← ht, bysN_len] at this; exact this); obtain ⟨f1, f2, f3, f4⟩ := F.out t ht; have F1 := Lib.hid f1; have F2 := Lib.hid f2; have F3 := Lib.hid f3; clear f1 f2 f3 ht)
                | (go_at_call 27; refine (returns_any t T _ (by omega) (by omega)).mono ?_; rintro e w3 ⟨r, rfl, hr, hb3⟩; rw [F1.out]; rw [F2.out] at hr; have zr : r.size ≤ 35 := (by rw [← bysN_len, hr]; exact f4); have Hr := Lib.hid hr; clear hr)
                | (go_at_call 34; refine (hops_any r _ (by omega)).mono ?_; rintro e w4 ⟨rfl, hb4⟩; rw [Hr.out, F3.out]))
              go_roundw
              case rel => exact ⟨m, r, by omega, rfl, rfl, Hr, zr, BW_on (BW_on (BW_on hb hb2) hb3) hb4⟩
              case measure => simp [intOf]
            · obtain rfl : j = 0 := by omega
              obtain rfl : T = ⟨#[120]⟩ := bysN_inj (hT.out.trans rfl)
              rw [show ((0 : Nat) : Int) - 1 = -1 from by omega]
              go_wp2_with fail
              go_ret
              exact ⟨rfl, hb⟩
        · have hk1 : ¬ (L.length : Int) = 4 := by omega
          have hw1 : wrap64 ((L.length : Int) - 1) = (L.length : Int) - 1 := by unfold wrap64; omega
          go_wp2_with fail
          have BB := hb
          go_loopw [4, 7, 8, 9] (fun d i _ _ wr => ∃ (j : Nat) (T : ByteArray), j ≤ L.length ∧ i = .int .i64 ((j : Int) - 1) ∧ d = .string T ∧ Hid (bysN T = over ((L.take j).map wordL)) ∧ T.size ≤ 35 ∧ Below w.heap.size w wr) (fun _ i _ _ _ => (intOf i + 1).toNat)
          case atStart => exact ⟨L.length, T, by omega, rfl, rfl, hT, hTs, BB⟩
          case round =>
            clear hT hTs hb
            obtain ⟨j, T, hj, rfl, rfl, hT, hTs, hb⟩ := hrel
            by_cases hj0 : 0 < j
            · obtain ⟨m, rfl⟩ : ∃ m, j = m + 1 := ⟨j - 1, by omega⟩
              rw [show ((m + 1 : Nat) : Int) - 1 = (m : Int) from by omega]
              obtain ⟨g, off, rfl, hc⟩ := Hf.out (by omega)
              have hm : m < L.length := by omega
              have hc1 := BW_cell hb (hc m hm)
              have hk1 : (m : Int) < (L.length : Int) := by omega
              have hm0 : 0 ≤ (m : Int) := by omega
              have hw1 : wrap64 ((m : Int) - 1) = (m : Int) - 1 := by unfold wrap64; omega
              have F := Lib.hid (over_back L m hm (by omega) T hT.out)
              clear hc Hf
              generalize L[m] = z at *
              go_wp2_with (first
                | (go_at_call 31; refine (word_any z _).mono ?_; rintro e w2 ⟨t, rfl, ht, hb2⟩; have zt : t.size ≤ 4 := (by have := (wordL_len z).2; rw [← ht, bysN_len] at this; exact this); obtain ⟨f1, f2, f3, f4⟩ := F.out t ht; have F1 := Lib.hid f1; have F2 := Lib.hid f2; have F3 := Lib.hid f3; clear f1 f2 f3 ht)
                | (go_at_call 27; refine (returns_any t T _ (by omega) (by omega)).mono ?_; rintro e w3 ⟨r, rfl, hr, hb3⟩; rw [F1.out]; rw [F2.out] at hr; have zr : r.size ≤ 35 := (by rw [← bysN_len, hr]; exact f4); have Hr := Lib.hid hr; clear hr)
                | (go_at_call 34; refine (hops_any r _ (by omega)).mono ?_; rintro e w4 ⟨rfl, hb4⟩; rw [Hr.out, F3.out]))
              go_roundw
              case rel => exact ⟨m, r, by omega, rfl, rfl, Hr, zr, BW_on (BW_on (BW_on hb hb2) hb3) hb4⟩
              case measure => simp [intOf]
            · obtain rfl : j = 0 := by omega
              obtain rfl : T = ⟨#[120]⟩ := bysN_inj (hT.out.trans rfl)
              rw [show ((0 : Nat) : Int) - 1 = -1 from by omega]
              go_wp2_with fail
              go_ret
              exact ⟨rfl, hb⟩
end Go.Proofs.YtkmdjnjpmhbhmaaDoor

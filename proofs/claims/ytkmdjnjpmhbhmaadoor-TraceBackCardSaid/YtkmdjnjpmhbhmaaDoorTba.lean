/- The law TraceBack's walk. -/
import Derived.Test.YtkmdjnjpmhbhmaaDoorTjo
import Derived.Test.YtkmdjnjpmhbhmaaDoorTov
namespace Go.Proofs.YtkmdjnjpmhbhmaaDoor
open Go.RowKit
attribute [local go_sem ↓] Go.wp_at_zero Go.wp_at_succ
theorem own2_jrow2 {w : World} {base n : Nat} {v : Value} {Ls : List ByteArray} (h : own2 w base 9 v n (Ls.map Value.string)) (hn : n = Ls.length) : ∃ p cap, v = .slice p n cap ∧ JRow w v Ls := by
  have hj := own2_jrow h hn
  have hj2 := hj
  obtain ⟨p, cap, e, _⟩ := hj2
  exact ⟨p, cap, by rw [hn]; exact e, hj⟩
theorem back_facts {L : List Int} {Ls : List ByteArray} {n : Nat} {ch : Int} {c : ByteArray} (hM : Ls.map bysN = (L.take n).map wordL) (hc : bysN c = wordL ch) (h6 : Ls.length ≤ 6) (t : ByteArray) (ht : bysN t = pjoin ((Ls ++ [(⟨#[98, 97, 115, 101]⟩ : ByteArray)]).map bysN)) (p : ByteArray) (hp : bysN p = bysN c ++ 47 :: bysN t) :
    okDen (bysN t) = decide (Ls.length ≤ 4) ∧ ((pHops (bysN t) : Nat) : Int) = (if Ls.length ≤ 4 then (Ls.length : Int) else 0) ∧ okDen (bysN p) = decide (Ls.length ≤ 3) ∧ ((pHops (bysN p) : Nat) : Int) = (if Ls.length ≤ 3 then (Ls.length : Int) + 1 else 0) ∧ pBase (bysN p) = (if Ls.length ≤ 3 then bysN ⟨#[98, 97, 115, 101]⟩ else []) ∧
    okRet (bysN c) (bysN p) = decide (Ls.length ≤ 4) ∧ pRet (bysN c) (bysN p) = (if Ls.length ≤ 4 then bysN t else []) ∧ t.size ≤ 49 ∧ p.size ≤ 60 := by
  have hne : (Ls ++ [(⟨#[98, 97, 115, 101]⟩ : ByteArray)]).map bysN ≠ [] := by rw [List.map_append]; simp
  have hw : ∀ x ∈ (Ls ++ [(⟨#[98, 97, 115, 101]⟩ : ByteArray)]).map bysN, Wd x := by
    rw [List.map_append, hM]
    intro x hx
    rcases List.mem_append.1 hx with hx | hx
    · exact words_wd _ x hx
    · simp at hx; subst hx; exact ⟨by decide, by decide, by decide⟩
  have hl : ((Ls ++ [(⟨#[98, 97, 115, 101]⟩ : ByteArray)]).map bysN).length = Ls.length + 1 := by rw [List.length_map, List.length_append]; rfl
  have hlast : ((Ls ++ [(⟨#[98, 97, 115, 101]⟩ : ByteArray)]).map bysN).getLast?.getD [] = bysN ⟨#[98, 97, 115, 101]⟩ := by rw [List.map_append]; simp
  generalize (Ls ++ [(⟨#[98, 97, 115, 101]⟩ : ByteArray)]).map bysN = D at *
  have hw2 : ∀ x ∈ bysN c :: D, Wd x := by
    intro x hx
    rcases List.mem_cons.1 hx with rfl | hx
    · rw [hc]; exact wd_word ch
    · exact hw x hx
  have hpj : bysN p = pjoin (bysN c :: D) := by rw [hp, ht, join_cons hne]
  have hl2 : (bysN c :: D).length = Ls.length + 2 := by rw [List.length_cons, hl]
  have hlast2 : (bysN c :: D).getLast?.getD [] = bysN ⟨#[98, 97, 115, 101]⟩ := by
    rw [← hlast]
    cases D with
    | nil => exact absurd rfl hne
    | cons a r => rfl
  have hok : okDen (bysN t) = decide (Ls.length ≤ 4) := by
    rw [ht, okDen_words hne hw, hl]
    by_cases h : Ls.length ≤ 4
    · rw [decide_eq_true h]; exact decide_eq_true (by omega)
    · rw [decide_eq_false h]; exact decide_eq_false (by omega)
  refine ⟨hok, ?_, ?_, ?_, ?_, ?_, ?_, ?_, ?_⟩
  · rw [ht, pHops_words hne hw, hl]
    by_cases h : Ls.length ≤ 4
    · rw [if_pos h, if_pos (by omega)]; omega
    · rw [if_neg h, if_neg (by omega)]; rfl
  · rw [hpj, okDen_words (by simp) hw2, hl2]
    by_cases h : Ls.length ≤ 3
    · rw [decide_eq_true h]; exact decide_eq_true (by omega)
    · rw [decide_eq_false h]; exact decide_eq_false (by omega)
  · rw [hpj, pHops_words (by simp) hw2, hl2]
    by_cases h : Ls.length ≤ 3
    · rw [if_pos h, if_pos (by omega)]; omega
    · rw [if_neg h, if_neg (by omega)]; rfl
  · rw [hpj, pBase_words (by simp) hw2, hl2, hlast2]
    by_cases h : Ls.length ≤ 3
    · rw [if_pos h, if_pos (by omega)]
    · rw [if_neg h, if_neg (by omega)]
  · rw [hp, okRet_self, hok]
  · rw [hp, pRet_self, hok]
    by_cases h : Ls.length ≤ 4
    · rw [if_pos h, if_pos (by exact decide_eq_true h)]
    · rw [if_neg h, if_neg (by rw [decide_eq_false h]; decide)]
  · rw [← bysN_len, ht]
    have := pjoin_len D 6 (fun x hx => (hw x hx).2.2)
    omega
  · rw [← bysN_len, hpj]
    have := pjoin_len (bysN c :: D) 6 (fun x hx => (hw2 x hx).2.2)
    omega
set_option maxHeartbeats 4000000 in
set_option maxRecDepth 100000 in
theorem l12back_any (ch : Int) (v : Value) (L : List Int) (w : World) (hv : Hid (Ints w v L)) (hl : L.length ≤ 9223372036854775807) : Calls Tryd.prog 11 #[.int .i64 ch, v] w fun e w' => e = .returned (.bool true) ∧ Below w.heap.size w w' := by
  obtain ⟨i0, hi0, iz0, iz1, iz2⟩ := info_parts infoST
  obtain ⟨p0, cap0, rfl, hf⟩ := hv.out
  have Hf := Lib.hid hf
  clear hf hv
  go_enter Tryd.func11, Tryd.ntmps11
  go_wp2_with (first | (go_at_call 25; refine (awake12_any _).mono ?_; rintro e w1 ⟨rfl, hb1⟩) | (go_at_call 31; refine (word_any ch _).mono ?_; rintro e w2 ⟨c, rfl, hc, hb2⟩; have Hc := Lib.hid hc; have zc : c.size ≤ 4 := (by have := (wordL_len ch).2; rw [← hc, bysN_len] at this; exact this); clear hc))
  have hb12 := BW_on hb1 hb2
  clear hb1 hb2
  go_loopw [7, 8] (fun v i wr => ∃ Ls : List ByteArray, Ls.length ≤ L.length ∧ Ls.length ≤ 6 ∧ i = .int .i64 (Ls.length : Int) ∧ Hid (Ls.map bysN = (L.take Ls.length).map wordL) ∧ Hid (∀ x ∈ Ls, x.size ≤ 4) ∧ own2 wr w.heap.size 9 v Ls.length (Ls.map Value.string) ∧ Below w.heap.size w wr) (fun _ i _ => 6 - (intOf i).toNat)
  case atStart => exact ⟨[], by simp, by simp, rfl, Lib.hid rfl, Lib.hid (fun x hx => by cases hx), own2.nil _ _ _, hb12⟩
  case round =>
    clear hb12
    obtain ⟨Ls, hLl, hL8, rfl, hM, hX, hown, hb⟩ := hrel
    have hbs := hb.size
    by_cases hlt : Ls.length < L.length ∧ Ls.length < 6
    · obtain ⟨hlt, hlt8⟩ := hlt
      obtain ⟨g, off, rfl, hc⟩ := Hf.out (by omega)
      have hc1 := BW_cell hb (hc Ls.length hlt)
      have hk1 : (Ls.length : Int) < (L.length : Int) := by omega
      have hk2 : (Ls.length : Int) < 6 := by omega
      have hw1 : wrap64 ((Ls.length : Int) + 1) = (Ls.length : Int) + 1 := by unfold wrap64; omega
      have hm1 : Hid ((L.take (Ls.length + 1)).map wordL = (L.take Ls.length).map wordL ++ [wordL L[Ls.length]]) := Lib.hid (by rw [List.take_succ_eq_append_getElem hlt, List.map_append]; rfl)
      clear hc Hf
      generalize L[Ls.length] = z at *
      go_wp2_with (first | (go_at_call 31; refine (word_any z _).mono ?_; rintro e w2 ⟨t, rfl, ht, hb2⟩; have Ht := Lib.hid ht; have hown2 := hown.keptB hb2; have hB2 := BW_on hb hb2; have hbs2 := hB2.size; have zt : t.size ≤ 4 := (by have := (wordL_len z).2; rw [← ht, bysN_len] at this; exact this); clear ht) | (at_builtin; go_must (refine @wpList_push2 Tryd.prog _ _ _ _ _ w2 rfl _ _ 51 rfl w.heap.size 9 i0 (.string ⟨#[]⟩) 16 Tryd.underlying51 hi0 iz0 iz1 iz2 rfl u7 Ls.length (Ls.map Value.string) ?q1 hown2 (.string (t)) w2.heap.size ?q2 rfl rfl ?q3 ?q4 ?q5 ?_; (case q1 => rfl); (case q2 => rfl); (case q3 => unfold maxLen; omega); (case q4 => omega); (case q5 => omega)); intro a2 w6 ha2 hg6 hn2))
      have hb6 := hB2.grown hg6 (by omega) (own2.le hown2)
      go_roundw
      case rel => exact ⟨Ls ++ [t], by rw [List.length_append]; simp; omega, by rw [List.length_append]; simp; omega, by rw [List.length_append]; go_num, Lib.hid (by rw [List.length_append, List.length_singleton, hm1.out, List.map_append, hM.out]; exact congrArg (_ ++ [·]) Ht.out), Lib.hid (fun x hx => by
        rcases List.mem_append.1 hx with hx | hx
        · exact hX.out x hx
        · simp at hx; subst hx; exact zt), by rw [List.length_append, List.map_append]; exact ha2, hb6⟩
      case measure => simp [intOf]; omega
    · clear Hf
      by_cases ca : Ls.length < L.length
      · have hk1 : (Ls.length : Int) < (L.length : Int) := by omega
        have hk2 : ¬ (Ls.length : Int) < 6 := by omega
        have c4 : ¬ Ls.length ≤ 4 := by omega
        have c3 : ¬ Ls.length ≤ 3 := by omega
        have F := Lib.hid (fun t ht p hp => back_facts hM.out Hc.out hL8 t ht p hp)
        obtain ⟨N, hN⟩ : ∃ N, N = Ls.length + 1 := ⟨_, rfl⟩
        have Hjl : Hid ((pjoin ((Ls ++ [(⟨#[98, 97, 115, 101]⟩ : ByteArray)]).map bysN)).length ≤ 1000000) := Lib.hid (by
          have := pjoin_len ((Ls ++ [(⟨#[98, 97, 115, 101]⟩ : ByteArray)]).map bysN) 4 (fun x hx => by
            obtain ⟨y, hy, rfl⟩ := List.mem_map.1 hx
            rw [bysN_len]
            rcases List.mem_append.1 hy with hy | hy
            · exact hX.out y hy
            · simp at hy; subst hy; decide)
          rw [List.length_map, List.length_append, List.length_singleton] at this
          omega)
        have d5 : ¬ (N : Int) ≤ 5 := by omega
        have d4 : ¬ (N : Int) ≤ 4 := by omega
        have dn : (Ls.length : Int) = (N : Int) - 1 := by omega
        have dw : wrap64 ((N : Int) - 1) = (N : Int) - 1 := by unfold wrap64; omega
        have dw2 : wrap64 ((Ls.length : Int) + 1) = (N : Int) := by unfold wrap64; omega
        have dw3 : wrap64 ((N : Int) - 1 + 1) = (N : Int) := by unfold wrap64; omega
        have HN := Lib.hid hN
        clear hM hX hN
        go_wp2_with (first
          | (at_builtin; go_must (refine @wpList_push2 Tryd.prog _ _ _ _ _ wr rfl _ _ 51 rfl w.heap.size 9 i0 (.string ⟨#[]⟩) 16 Tryd.underlying51 hi0 iz0 iz1 iz2 rfl u7 Ls.length (Ls.map Value.string) ?q1 hown (.string ⟨#[98, 97, 115, 101]⟩) wr.heap.size ?q2 rfl rfl ?q3 ?q4 ?q5 ?_; (case q1 => rfl); (case q2 => rfl); (case q3 => unfold maxLen; omega); (case q4 => omega); (case q5 => omega)); intro a2 w6 ha2 hg6 hn2; have hB := hb.grown hg6 (by omega) (own2.le hown); rw [← HN.out] at ha2; obtain ⟨p3, cap, rfl, hj⟩ := own2_jrow2 (Ls := Ls ++ [(⟨#[98, 97, 115, 101]⟩ : ByteArray)]) (by rw [List.map_append]; exact ha2) (by rw [HN.out, List.length_append]; rfl); have HJ := Lib.hid hj; have hC := BW_refl w6; clear hown hb ha2 hj hbs)
          | (go_at_call 38; refine (join_any _ (Ls ++ [(⟨#[98, 97, 115, 101]⟩ : ByteArray)]) _ (HJ.out.on hC) Hjl.out (by rw [List.length_append, List.length_singleton]; omega)).mono ?_; rintro e w2 ⟨t, rfl, ht, hb2⟩; have Ht := Lib.hid ht; have zt : t.size ≤ 1000000 := (by rw [← bysN_len, ht]; exact Hjl.out); clear ht; replace hB := BW_on hB hb2; replace hC := BW_on hC hb2; clear hb2)
          | (go_at_call 29; refine (prefix_any c t _ (by omega) (by omega)).mono ?_; rintro e w' ⟨p, rfl, hp, rfl⟩; obtain ⟨f1, f2, f3, f4, f5, f6, f7, f8, f9⟩ := F.out t Ht.out p hp; rw [decide_eq_false c4] at f1 f6; rw [if_neg c4] at f2 f7; rw [decide_eq_false c3] at f3; rw [if_neg c3] at f4 f5; have F1 := Lib.hid f1; have F2 := Lib.hid f2; have F3 := Lib.hid f3; have F4 := Lib.hid f4; have F5 := Lib.hid f5; have F6 := Lib.hid f6; have F7 := Lib.hid f7; clear f1 f2 f3 f4 f5 f6 f7 hp)
          | (go_at_call 27; refine (returns_any c p _ (by omega) (by omega)).mono ?_; rintro e w2 ⟨r, rfl, hr, hb2⟩; rw [F6.out]; obtain rfl : r = ⟨#[]⟩ := bysN_inj (hr.trans F7.out); replace hB := BW_on hB hb2; replace hC := BW_on hC hb2; clear hb2)
          | (go_at_call 33; refine (check_any _ _ (by omega)).mono ?_; rintro e w2 ⟨rfl, hb2⟩; (first | rw [F1.out] | rw [F3.out]); replace hB := BW_on hB hb2; replace hC := BW_on hC hb2; clear hb2)
          | (go_at_call 34; refine (hops_any _ _ (by omega)).mono ?_; rintro e w2 ⟨rfl, hb2⟩; (first | rw [F4.out] | rw [F2.out]); replace hB := BW_on hB hb2; replace hC := BW_on hC hb2; clear hb2)
          | (go_at_call 35; refine (base_any p _ (by omega)).mono ?_; rintro e w2 ⟨tb, rfl, htb, hb2⟩; obtain rfl : tb = ⟨#[]⟩ := bysN_inj (htb.trans F5.out); replace hB := BW_on hB hb2; replace hC := BW_on hC hb2; clear hb2))
        go_ret
        exact ⟨by first | rfl | (simp; omega), hB⟩
      · have hk1 : ¬ (Ls.length : Int) < (L.length : Int) := by omega
        by_cases c4 : Ls.length ≤ 4
        · by_cases c3 : Ls.length ≤ 3
          · have F := Lib.hid (fun t ht p hp => back_facts hM.out Hc.out hL8 t ht p hp)
            obtain ⟨N, hN⟩ : ∃ N, N = Ls.length + 1 := ⟨_, rfl⟩
            have Hjl : Hid ((pjoin ((Ls ++ [(⟨#[98, 97, 115, 101]⟩ : ByteArray)]).map bysN)).length ≤ 1000000) := Lib.hid (by
              have := pjoin_len ((Ls ++ [(⟨#[98, 97, 115, 101]⟩ : ByteArray)]).map bysN) 4 (fun x hx => by
                obtain ⟨y, hy, rfl⟩ := List.mem_map.1 hx
                rw [bysN_len]
                rcases List.mem_append.1 hy with hy | hy
                · exact hX.out y hy
                · simp at hy; subst hy; decide)
              rw [List.length_map, List.length_append, List.length_singleton] at this
              omega)
            have d5 : (N : Int) ≤ 5 := by omega
            have d4 : (N : Int) ≤ 4 := by omega
            have dn : (Ls.length : Int) = (N : Int) - 1 := by omega
            have dw : wrap64 ((N : Int) - 1) = (N : Int) - 1 := by unfold wrap64; omega
            have dw2 : wrap64 ((Ls.length : Int) + 1) = (N : Int) := by unfold wrap64; omega
            have dw3 : wrap64 ((N : Int) - 1 + 1) = (N : Int) := by unfold wrap64; omega
            have HN := Lib.hid hN
            clear hM hX hN
            go_wp2_with (first
              | (at_builtin; go_must (refine @wpList_push2 Tryd.prog _ _ _ _ _ wr rfl _ _ 51 rfl w.heap.size 9 i0 (.string ⟨#[]⟩) 16 Tryd.underlying51 hi0 iz0 iz1 iz2 rfl u7 Ls.length (Ls.map Value.string) ?q1 hown (.string ⟨#[98, 97, 115, 101]⟩) wr.heap.size ?q2 rfl rfl ?q3 ?q4 ?q5 ?_; (case q1 => rfl); (case q2 => rfl); (case q3 => unfold maxLen; omega); (case q4 => omega); (case q5 => omega)); intro a2 w6 ha2 hg6 hn2; have hB := hb.grown hg6 (by omega) (own2.le hown); rw [← HN.out] at ha2; obtain ⟨p3, cap, rfl, hj⟩ := own2_jrow2 (Ls := Ls ++ [(⟨#[98, 97, 115, 101]⟩ : ByteArray)]) (by rw [List.map_append]; exact ha2) (by rw [HN.out, List.length_append]; rfl); have HJ := Lib.hid hj; have hC := BW_refl w6; clear hown hb ha2 hj hbs)
              | (go_at_call 38; refine (join_any _ (Ls ++ [(⟨#[98, 97, 115, 101]⟩ : ByteArray)]) _ (HJ.out.on hC) Hjl.out (by rw [List.length_append, List.length_singleton]; omega)).mono ?_; rintro e w2 ⟨t, rfl, ht, hb2⟩; have Ht := Lib.hid ht; have zt : t.size ≤ 1000000 := (by rw [← bysN_len, ht]; exact Hjl.out); clear ht; replace hB := BW_on hB hb2; replace hC := BW_on hC hb2; clear hb2)
              | (go_at_call 29; refine (prefix_any c t _ (by omega) (by omega)).mono ?_; rintro e w' ⟨p, rfl, hp, rfl⟩; obtain ⟨f1, f2, f3, f4, f5, f6, f7, f8, f9⟩ := F.out t Ht.out p hp; rw [decide_eq_true c4] at f1 f6; rw [if_pos c4] at f2 f7; rw [decide_eq_true c3] at f3; rw [if_pos c3] at f4 f5; rw [dn] at f2; rw [dn, show (N : Int) - 1 + 1 = (N : Int) by omega] at f4; have F1 := Lib.hid f1; have F2 := Lib.hid f2; have F3 := Lib.hid f3; have F4 := Lib.hid f4; have F5 := Lib.hid f5; have F6 := Lib.hid f6; have F7 := Lib.hid f7; clear f1 f2 f3 f4 f5 f6 f7 hp)
              | (go_at_call 27; refine (returns_any c p _ (by omega) (by omega)).mono ?_; rintro e w2 ⟨r, rfl, hr, hb2⟩; rw [F6.out]; obtain rfl := bysN_inj (hr.trans F7.out); replace hB := BW_on hB hb2; replace hC := BW_on hC hb2; clear hb2)
              | (go_at_call 33; refine (check_any _ _ (by omega)).mono ?_; rintro e w2 ⟨rfl, hb2⟩; (first | rw [F1.out] | rw [F3.out]); replace hB := BW_on hB hb2; replace hC := BW_on hC hb2; clear hb2)
              | (go_at_call 34; refine (hops_any _ _ (by omega)).mono ?_; rintro e w2 ⟨rfl, hb2⟩; (first | rw [F4.out] | rw [F2.out]); replace hB := BW_on hB hb2; replace hC := BW_on hC hb2; clear hb2)
              | (go_at_call 35; refine (base_any p _ (by omega)).mono ?_; rintro e w2 ⟨tb, rfl, htb, hb2⟩; obtain rfl : tb = ⟨#[98, 97, 115, 101]⟩ := bysN_inj (htb.trans F5.out); replace hB := BW_on hB hb2; replace hC := BW_on hC hb2; clear hb2))
            go_ret
            exact ⟨by first | rfl | (simp; omega), hB⟩
          · have F := Lib.hid (fun t ht p hp => back_facts hM.out Hc.out hL8 t ht p hp)
            obtain ⟨N, hN⟩ : ∃ N, N = Ls.length + 1 := ⟨_, rfl⟩
            have Hjl : Hid ((pjoin ((Ls ++ [(⟨#[98, 97, 115, 101]⟩ : ByteArray)]).map bysN)).length ≤ 1000000) := Lib.hid (by
              have := pjoin_len ((Ls ++ [(⟨#[98, 97, 115, 101]⟩ : ByteArray)]).map bysN) 4 (fun x hx => by
                obtain ⟨y, hy, rfl⟩ := List.mem_map.1 hx
                rw [bysN_len]
                rcases List.mem_append.1 hy with hy | hy
                · exact hX.out y hy
                · simp at hy; subst hy; decide)
              rw [List.length_map, List.length_append, List.length_singleton] at this
              omega)
            have d5 : (N : Int) ≤ 5 := by omega
            have d4 : ¬ (N : Int) ≤ 4 := by omega
            have dn : (Ls.length : Int) = (N : Int) - 1 := by omega
            have dw : wrap64 ((N : Int) - 1) = (N : Int) - 1 := by unfold wrap64; omega
            have dw2 : wrap64 ((Ls.length : Int) + 1) = (N : Int) := by unfold wrap64; omega
            have dw3 : wrap64 ((N : Int) - 1 + 1) = (N : Int) := by unfold wrap64; omega
            have HN := Lib.hid hN
            clear hM hX hN
            go_wp2_with (first
              | (at_builtin; go_must (refine @wpList_push2 Tryd.prog _ _ _ _ _ wr rfl _ _ 51 rfl w.heap.size 9 i0 (.string ⟨#[]⟩) 16 Tryd.underlying51 hi0 iz0 iz1 iz2 rfl u7 Ls.length (Ls.map Value.string) ?q1 hown (.string ⟨#[98, 97, 115, 101]⟩) wr.heap.size ?q2 rfl rfl ?q3 ?q4 ?q5 ?_; (case q1 => rfl); (case q2 => rfl); (case q3 => unfold maxLen; omega); (case q4 => omega); (case q5 => omega)); intro a2 w6 ha2 hg6 hn2; have hB := hb.grown hg6 (by omega) (own2.le hown); rw [← HN.out] at ha2; obtain ⟨p3, cap, rfl, hj⟩ := own2_jrow2 (Ls := Ls ++ [(⟨#[98, 97, 115, 101]⟩ : ByteArray)]) (by rw [List.map_append]; exact ha2) (by rw [HN.out, List.length_append]; rfl); have HJ := Lib.hid hj; have hC := BW_refl w6; clear hown hb ha2 hj hbs)
              | (go_at_call 38; refine (join_any _ (Ls ++ [(⟨#[98, 97, 115, 101]⟩ : ByteArray)]) _ (HJ.out.on hC) Hjl.out (by rw [List.length_append, List.length_singleton]; omega)).mono ?_; rintro e w2 ⟨t, rfl, ht, hb2⟩; have Ht := Lib.hid ht; have zt : t.size ≤ 1000000 := (by rw [← bysN_len, ht]; exact Hjl.out); clear ht; replace hB := BW_on hB hb2; replace hC := BW_on hC hb2; clear hb2)
              | (go_at_call 29; refine (prefix_any c t _ (by omega) (by omega)).mono ?_; rintro e w' ⟨p, rfl, hp, rfl⟩; obtain ⟨f1, f2, f3, f4, f5, f6, f7, f8, f9⟩ := F.out t Ht.out p hp; rw [decide_eq_true c4] at f1 f6; rw [if_pos c4] at f2 f7; rw [decide_eq_false c3] at f3; rw [if_neg c3] at f4 f5; rw [dn] at f2; have F1 := Lib.hid f1; have F2 := Lib.hid f2; have F3 := Lib.hid f3; have F4 := Lib.hid f4; have F5 := Lib.hid f5; have F6 := Lib.hid f6; have F7 := Lib.hid f7; clear f1 f2 f3 f4 f5 f6 f7 hp)
              | (go_at_call 27; refine (returns_any c p _ (by omega) (by omega)).mono ?_; rintro e w2 ⟨r, rfl, hr, hb2⟩; rw [F6.out]; obtain rfl := bysN_inj (hr.trans F7.out); replace hB := BW_on hB hb2; replace hC := BW_on hC hb2; clear hb2)
              | (go_at_call 33; refine (check_any _ _ (by omega)).mono ?_; rintro e w2 ⟨rfl, hb2⟩; (first | rw [F1.out] | rw [F3.out]); replace hB := BW_on hB hb2; replace hC := BW_on hC hb2; clear hb2)
              | (go_at_call 34; refine (hops_any _ _ (by omega)).mono ?_; rintro e w2 ⟨rfl, hb2⟩; (first | rw [F4.out] | rw [F2.out]); replace hB := BW_on hB hb2; replace hC := BW_on hC hb2; clear hb2)
              | (go_at_call 35; refine (base_any p _ (by omega)).mono ?_; rintro e w2 ⟨tb, rfl, htb, hb2⟩; obtain rfl : tb = ⟨#[]⟩ := bysN_inj (htb.trans F5.out); replace hB := BW_on hB hb2; replace hC := BW_on hC hb2; clear hb2))
            go_ret
            exact ⟨by first | rfl | (simp; omega), hB⟩
        · have c3 : ¬ Ls.length ≤ 3 := by omega
          have F := Lib.hid (fun t ht p hp => back_facts hM.out Hc.out hL8 t ht p hp)
          obtain ⟨N, hN⟩ : ∃ N, N = Ls.length + 1 := ⟨_, rfl⟩
          have Hjl : Hid ((pjoin ((Ls ++ [(⟨#[98, 97, 115, 101]⟩ : ByteArray)]).map bysN)).length ≤ 1000000) := Lib.hid (by
            have := pjoin_len ((Ls ++ [(⟨#[98, 97, 115, 101]⟩ : ByteArray)]).map bysN) 4 (fun x hx => by
              obtain ⟨y, hy, rfl⟩ := List.mem_map.1 hx
              rw [bysN_len]
              rcases List.mem_append.1 hy with hy | hy
              · exact hX.out y hy
              · simp at hy; subst hy; decide)
            rw [List.length_map, List.length_append, List.length_singleton] at this
            omega)
          have d5 : ¬ (N : Int) ≤ 5 := by omega
          have d4 : ¬ (N : Int) ≤ 4 := by omega
          have dn : (Ls.length : Int) = (N : Int) - 1 := by omega
          have dw : wrap64 ((N : Int) - 1) = (N : Int) - 1 := by unfold wrap64; omega
          have dw2 : wrap64 ((Ls.length : Int) + 1) = (N : Int) := by unfold wrap64; omega
          have dw3 : wrap64 ((N : Int) - 1 + 1) = (N : Int) := by unfold wrap64; omega
          have HN := Lib.hid hN
          clear hM hX hN
          go_wp2_with (first
            | (at_builtin; go_must (refine @wpList_push2 Tryd.prog _ _ _ _ _ wr rfl _ _ 51 rfl w.heap.size 9 i0 (.string ⟨#[]⟩) 16 Tryd.underlying51 hi0 iz0 iz1 iz2 rfl u7 Ls.length (Ls.map Value.string) ?q1 hown (.string ⟨#[98, 97, 115, 101]⟩) wr.heap.size ?q2 rfl rfl ?q3 ?q4 ?q5 ?_; (case q1 => rfl); (case q2 => rfl); (case q3 => unfold maxLen; omega); (case q4 => omega); (case q5 => omega)); intro a2 w6 ha2 hg6 hn2; have hB := hb.grown hg6 (by omega) (own2.le hown); rw [← HN.out] at ha2; obtain ⟨p3, cap, rfl, hj⟩ := own2_jrow2 (Ls := Ls ++ [(⟨#[98, 97, 115, 101]⟩ : ByteArray)]) (by rw [List.map_append]; exact ha2) (by rw [HN.out, List.length_append]; rfl); have HJ := Lib.hid hj; have hC := BW_refl w6; clear hown hb ha2 hj hbs)
            | (go_at_call 38; refine (join_any _ (Ls ++ [(⟨#[98, 97, 115, 101]⟩ : ByteArray)]) _ (HJ.out.on hC) Hjl.out (by rw [List.length_append, List.length_singleton]; omega)).mono ?_; rintro e w2 ⟨t, rfl, ht, hb2⟩; have Ht := Lib.hid ht; have zt : t.size ≤ 1000000 := (by rw [← bysN_len, ht]; exact Hjl.out); clear ht; replace hB := BW_on hB hb2; replace hC := BW_on hC hb2; clear hb2)
            | (go_at_call 29; refine (prefix_any c t _ (by omega) (by omega)).mono ?_; rintro e w' ⟨p, rfl, hp, rfl⟩; obtain ⟨f1, f2, f3, f4, f5, f6, f7, f8, f9⟩ := F.out t Ht.out p hp; rw [decide_eq_false c4] at f1 f6; rw [if_neg c4] at f2 f7; rw [decide_eq_false c3] at f3; rw [if_neg c3] at f4 f5; have F1 := Lib.hid f1; have F2 := Lib.hid f2; have F3 := Lib.hid f3; have F4 := Lib.hid f4; have F5 := Lib.hid f5; have F6 := Lib.hid f6; have F7 := Lib.hid f7; clear f1 f2 f3 f4 f5 f6 f7 hp)
            | (go_at_call 27; refine (returns_any c p _ (by omega) (by omega)).mono ?_; rintro e w2 ⟨r, rfl, hr, hb2⟩; rw [F6.out]; obtain rfl : r = ⟨#[]⟩ := bysN_inj (hr.trans F7.out); replace hB := BW_on hB hb2; replace hC := BW_on hC hb2; clear hb2)
            | (go_at_call 33; refine (check_any _ _ (by omega)).mono ?_; rintro e w2 ⟨rfl, hb2⟩; (first | rw [F1.out] | rw [F3.out]); replace hB := BW_on hB hb2; replace hC := BW_on hC hb2; clear hb2)
            | (go_at_call 34; refine (hops_any _ _ (by omega)).mono ?_; rintro e w2 ⟨rfl, hb2⟩; (first | rw [F4.out] | rw [F2.out]); replace hB := BW_on hB hb2; replace hC := BW_on hC hb2; clear hb2)
            | (go_at_call 35; refine (base_any p _ (by omega)).mono ?_; rintro e w2 ⟨tb, rfl, htb, hb2⟩; obtain rfl : tb = ⟨#[]⟩ := bysN_inj (htb.trans F5.out); replace hB := BW_on hB hb2; replace hC := BW_on hC hb2; clear hb2))
          go_ret
          exact ⟨by first | rfl | (simp; omega), hB⟩
end Go.Proofs.YtkmdjnjpmhbhmaaDoor

/- The law TraceJoins's walk. -/
import Derived.Test.YtkmdjnjpmhbhmaaDoorTen
import Derived.Test.YtkmdjnjpmhbhmaaDoorTov
namespace Go.Proofs.YtkmdjnjpmhbhmaaDoor
open Go.RowKit
attribute [local go_sem ↓] Go.wp_at_zero Go.wp_at_succ
theorem map_bysN_inj : ∀ {A B : List ByteArray}, A.map bysN = B.map bysN → A = B
  | [], [], _ => rfl
  | [], _ :: _, h => by simp at h
  | _ :: _, [], h => by simp at h
  | a :: A, b :: B, h => by
    rw [List.map_cons, List.map_cons] at h
    rw [bysN_inj (List.cons.inj h).1, map_bysN_inj (List.cons.inj h).2]
/-- What is known of words put together. -/
theorem words_facts {L : List Int} {Ls : List ByteArray} {n : Nat} (hM : Ls.map bysN = (L.take n).map wordL) (h0 : 0 < Ls.length) (t : ByteArray) (ht : bysN t = pjoin (Ls.map bysN)) (h8 : Ls.length ≤ 8) :
    parts (bysN t) = Ls.map bysN ∧ okDen (bysN t) = decide (Ls.length ≤ 5) ∧ ((pHops (bysN t) : Nat) : Int) = (if Ls.length ≤ 5 then (Ls.length : Int) - 1 else 0) ∧ pBase (bysN t) = (if Ls.length ≤ 5 then bysN ((Ls[Ls.length - 1]?).getD ⟨#[]⟩) else []) ∧ t.size ≤ 56 := by
  have hne : Ls.map bysN ≠ [] := by
    intro h
    have := congrArg List.length h
    rw [List.length_map] at this
    simp at this
    rw [this] at h0
    simp at h0
  have hw : ∀ x ∈ Ls.map bysN, Wd x := by rw [hM]; exact words_wd _
  have hl : (Ls.map bysN).length = Ls.length := List.length_map _
  rw [ht]
  refine ⟨parts_join _ hne (fun x hx => (hw x hx).1), ?_, ?_, ?_, ?_⟩
  · rw [okDen_words hne hw, hl]
  · rw [pHops_words hne hw, hl]
    split <;> omega
  · rw [pBase_words hne hw, hl]
    split
    · rw [List.getLast?_eq_getElem?, hl, List.getElem?_map, List.getElem?_eq_getElem (by omega)]
      rfl
    · rfl
  · rw [← bysN_len, ht]
    have := pjoin_len (Ls.map bysN) 6 (fun x hx => (hw x hx).2.2)
    rw [hl] at this
    omega
set_option maxHeartbeats 4000000 in
set_option maxRecDepth 100000 in
theorem l12joins_any (v : Value) (L : List Int) (m : Int) (w : World) (hv : Hid (Ints w v L)) (hl : L.length ≤ 9223372036854775807) (hm : w.cell? ⟨1, 0, none⟩ = some (.int .i64 m)) : Calls Tryd.prog 13 #[v] w fun e w' => e = .returned (.bool true) ∧ Below w.heap.size w w' := by
  obtain ⟨i0, hi0, iz0, iz1, iz2⟩ := info_parts infoST
  obtain ⟨p0, cap0, rfl, hf⟩ := hv.out
  have Hf := Lib.hid hf
  have Hm := Lib.hid hm
  clear hf hv hm
  go_enter Tryd.func13, Tryd.ntmps13
  go_wp2_with (go_at_call 25; refine (awake12_any _).mono ?_; rintro e w1 ⟨rfl, hb1⟩)
  go_loopw [4, 5] (fun v i wr => ∃ Ls : List ByteArray, Ls.length ≤ L.length ∧ Ls.length ≤ 8 ∧ i = .int .i64 (Ls.length : Int) ∧ Hid (Ls.map bysN = (L.take Ls.length).map wordL) ∧ Hid (∀ x ∈ Ls, x.size ≤ 4) ∧ own2 wr w.heap.size 9 v Ls.length (Ls.map Value.string) ∧ Below w.heap.size w wr) (fun _ i _ => 8 - (intOf i).toNat)
  case atStart => exact ⟨[], by simp, by simp, rfl, Lib.hid rfl, Lib.hid (fun x hx => by cases hx), own2.nil _ _ _, hb1⟩
  case round =>
    clear hb1
    obtain ⟨Ls, hLl, hL8, rfl, hM, hX, hown, hb⟩ := hrel
    have hbs := hb.size
    by_cases hlt : Ls.length < L.length ∧ Ls.length < 8
    · obtain ⟨hlt, hlt8⟩ := hlt
      obtain ⟨g, off, rfl, hc⟩ := Hf.out (by omega)
      have hc1 := BW_cell hb (hc Ls.length hlt)
      have hk1 : (Ls.length : Int) < (L.length : Int) := by omega
      have hk2 : (Ls.length : Int) < 8 := by omega
      have hw1 : wrap64 ((Ls.length : Int) + 1) = (Ls.length : Int) + 1 := by unfold wrap64; omega
      have hm1 : Hid ((L.take (Ls.length + 1)).map wordL = (L.take Ls.length).map wordL ++ [wordL L[Ls.length]]) := Lib.hid (by rw [List.take_succ_eq_append_getElem hlt, List.map_append]; rfl)
      clear hc Hf
      generalize L[Ls.length] = z at *
      go_wp2_with (first | (go_at_call 31; refine (word_any z _).mono ?_; rintro e w2 ⟨t, rfl, ht, hb2⟩; have Ht := Lib.hid ht; have hown2 := hown.keptB hb2; have hB2 := BW_on hb hb2; have hbs2 := hB2.size; have zt : t.size ≤ 4 := (by have := (wordL_len z).2; rw [← ht, bysN_len] at this; exact this); clear ht) | (at_builtin; go_must (refine @wpList_push2 Tryd.prog _ _ _ _ _ w2 rfl _ _ 51 rfl w.heap.size 9 i0 (.string ⟨#[]⟩) 16 Tryd.underlying51 hi0 iz0 iz1 iz2 rfl u4 Ls.length (Ls.map Value.string) ?q1 hown2 (.string (t)) w2.heap.size ?q2 rfl rfl ?q3 ?q4 ?q5 ?_; (case q1 => rfl); (case q2 => rfl); (case q3 => unfold maxLen; omega); (case q4 => omega); (case q5 => omega)); intro a2 w6 ha2 hg6 hn2))
      have hb6 := hB2.grown hg6 (by omega) (own2.le hown2)
      go_roundw
      case rel => exact ⟨Ls ++ [t], by rw [List.length_append]; simp; omega, by rw [List.length_append]; simp; omega, by rw [List.length_append]; go_num, Lib.hid (by rw [List.length_append, List.length_singleton, hm1.out, List.map_append, hM.out]; exact congrArg (_ ++ [·]) Ht.out), Lib.hid (fun x hx => by
        rcases List.mem_append.1 hx with hx | hx
        · exact hX.out x hx
        · simp at hx; subst hx; exact zt), by rw [List.length_append, List.map_append]; exact ha2, hb6⟩
      case measure => simp [intOf]; omega
    · clear Hf
      by_cases ca : Ls.length < L.length
      · have hk1 : (Ls.length : Int) < (L.length : Int) := by omega
        have hk2 : ¬ (Ls.length : Int) < 8 := by omega
        have c5 : ¬ Ls.length ≤ 5 := by omega
        have hJ := own2_jrow hown rfl
        obtain ⟨p, cap, rfl, hj⟩ := hJ
        have hlast0 := (hj (by omega)).2
        obtain ⟨g3, off3, rfl, _, hcells⟩ := hlast0
        obtain ⟨lx, hlx⟩ : ∃ lx, Ls[Ls.length - 1]? = some lx := ⟨_, List.getElem?_eq_getElem (by omega)⟩
        have hlast := hcells (Ls.length - 1) _ hlx
        have HJ : Hid (JRow wr (.slice (some ⟨g3, off3, none⟩) Ls.length cap) Ls) := Lib.hid ⟨_, cap, rfl, hj⟩
        have F := Lib.hid (words_facts hM.out (by omega) · · hL8)
        have Hjl : Hid ((pjoin (Ls.map bysN)).length ≤ 1000000) := Lib.hid (by
          have := pjoin_len (Ls.map bysN) 4 (fun x hx => by
            obtain ⟨y, hy, rfl⟩ := List.mem_map.1 hx
            rw [bysN_len]; exact hX.out y hy)
          rw [List.length_map] at this
          omega)
        clear hown hj hcells
        have hB := hb
        have hC := BW_refl wr
        clear hb hbs hM hX
        have d5 : ¬ (Ls.length : Int) ≤ 5 := by omega
        have d0 : ¬ (Ls.length : Int) = 0 := by omega
        have dw : wrap64 ((Ls.length : Int) - 1) = (Ls.length : Int) - 1 := by unfold wrap64; omega
        have dl : (Ls.length : Int) - 1 < (Ls.length : Int) := by omega
        have Hlx := Lib.hid hlx
        clear hlx
        go_wp2_with (first
          | (go_at_call 38; refine (join_any _ Ls _ (HJ.out.on hC) Hjl.out (by omega)).mono ?_; rintro e w2 ⟨t, rfl, ht, hb2⟩; obtain ⟨f1, f2, f3, f4, f5⟩ := F.out t ht; rw [decide_eq_false c5] at f2; rw [if_neg c5] at f3 f4; have F1 := Lib.hid f1; have F2 := Lib.hid f2; have F3 := Lib.hid f3; have F4 := Lib.hid f4; clear f1 f2 f3 f4 ht; replace hB := BW_on hB hb2; replace hC := BW_on hC hb2; clear hb2)
          | (go_at_call 39; refine (parts_any t m _ (by omega) (BW_cell hB Hm.out)).mono ?_; rintro e w2 ⟨v5, L5, rfl, hS5, hL5, _, _, hb2⟩; obtain rfl : L5 = Ls := map_bysN_inj (hL5.trans F1.out); have HS5 := Lib.hid hS5; clear hL5 hS5; replace hB := BW_on hB hb2; replace hC := BW_on hC hb2; clear hb2)
          | (go_at_call 44; refine (same1_any _ _ _ _ HS5.out (JRow.strs (HJ.out.on hC)) (by omega)).mono ?_; rintro e w2 ⟨rfl, hb2⟩; replace hB := BW_on hB hb2; replace hC := BW_on hC hb2; clear hb2; skip)
          | (go_at_call 33; refine (check_any t _ (by omega)).mono ?_; rintro e w2 ⟨rfl, hb2⟩; rw [F2.out]; replace hB := BW_on hB hb2; replace hC := BW_on hC hb2; clear hb2)
          | (go_at_call 34; refine (hops_any t _ (by omega)).mono ?_; rintro e w2 ⟨rfl, hb2⟩; rw [F3.out]; replace hB := BW_on hB hb2; replace hC := BW_on hC hb2; clear hb2)
          | (go_at_call 35; refine (base_any t _ (by omega)).mono ?_; rintro e w2 ⟨tb, rfl, htb, hb2⟩; obtain rfl : tb = ⟨#[]⟩ := bysN_inj (htb.trans F4.out); replace hB := BW_on hB hb2; replace hC := BW_on hC hb2; clear hb2))
        go_ret
        exact ⟨by first | rfl | (simp; omega), hB⟩
      · have hk1 : ¬ (Ls.length : Int) < (L.length : Int) := by omega
        by_cases c0 : Ls.length = 0
        · obtain rfl : Ls = [] := List.eq_nil_of_length_eq_zero c0
          have hJ := own2_jrow hown rfl
          obtain ⟨p, cap, rfl, hj⟩ := hJ
          have HJ : Hid (JRow wr (.slice p ([] : List ByteArray).length cap) []) := Lib.hid ⟨p, cap, rfl, hj⟩
          clear hown hj
          have hB := hb
          have hC := BW_refl wr
          have Hpe : Hid ((parts (bysN ⟨#[]⟩)).length = 1) := Lib.hid (by decide +kernel)
          clear hb hbs
          go_wp2_with (first
            | (go_at_call 38; refine (join_any _ [] _ (HJ.out.on hC) (by simp [pjoin]) (by simp)).mono ?_; rintro e w2 ⟨t, rfl, ht, hb2⟩; obtain rfl : t = ⟨#[]⟩ := bysN_inj (ht.trans rfl); replace hB := BW_on hB hb2; replace hC := BW_on hC hb2; clear hb2)
            | (go_at_call 39; refine (parts_any ⟨#[]⟩ m _ (by decide) (BW_cell hB Hm.out)).mono ?_; rintro e w2 ⟨v5, L5, rfl, ⟨p5, c5, rfl, _⟩, hL5, _, _, hb2⟩; have hLl5 : (L5.length : Int) = 1 := (by rw [← List.length_map (f := bysN), hL5, Hpe.out]; rfl); replace hB := BW_on hB hb2; replace hC := BW_on hC hb2; clear hb2))
          go_ret
          exact ⟨by first | rfl | (simp; omega), hB⟩
        · by_cases c5 : Ls.length ≤ 5
          · have hJ := own2_jrow hown rfl
            obtain ⟨p, cap, rfl, hj⟩ := hJ
            have hlast0 := (hj (by omega)).2
            obtain ⟨g3, off3, rfl, _, hcells⟩ := hlast0
            obtain ⟨lx, hlx⟩ : ∃ lx, Ls[Ls.length - 1]? = some lx := ⟨_, List.getElem?_eq_getElem (by omega)⟩
            have hlast := hcells (Ls.length - 1) _ hlx
            have HJ : Hid (JRow wr (.slice (some ⟨g3, off3, none⟩) Ls.length cap) Ls) := Lib.hid ⟨_, cap, rfl, hj⟩
            have F := Lib.hid (words_facts hM.out (by omega) · · hL8)
            have Hjl : Hid ((pjoin (Ls.map bysN)).length ≤ 1000000) := Lib.hid (by
              have := pjoin_len (Ls.map bysN) 4 (fun x hx => by
                obtain ⟨y, hy, rfl⟩ := List.mem_map.1 hx
                rw [bysN_len]; exact hX.out y hy)
              rw [List.length_map] at this
              omega)
            clear hown hj hcells
            have hB := hb
            have hC := BW_refl wr
            clear hb hbs hM hX
            have d5 : (Ls.length : Int) ≤ 5 := by omega
            have d0 : ¬ (Ls.length : Int) = 0 := by omega
            have dw : wrap64 ((Ls.length : Int) - 1) = (Ls.length : Int) - 1 := by unfold wrap64; omega
            have dl : (Ls.length : Int) - 1 < (Ls.length : Int) := by omega
            have Hlx := Lib.hid hlx
            clear hlx
            go_wp2_with (first
              | (go_at_call 38; refine (join_any _ Ls _ (HJ.out.on hC) Hjl.out (by omega)).mono ?_; rintro e w2 ⟨t, rfl, ht, hb2⟩; obtain ⟨f1, f2, f3, f4, f5⟩ := F.out t ht; rw [decide_eq_true c5] at f2; rw [if_pos c5] at f3 f4; rw [Hlx.out, Option.getD_some] at f4; have F1 := Lib.hid f1; have F2 := Lib.hid f2; have F3 := Lib.hid f3; have F4 := Lib.hid f4; clear f1 f2 f3 f4 ht; replace hB := BW_on hB hb2; replace hC := BW_on hC hb2; clear hb2)
              | (go_at_call 39; refine (parts_any t m _ (by omega) (BW_cell hB Hm.out)).mono ?_; rintro e w2 ⟨v5, L5, rfl, hS5, hL5, _, _, hb2⟩; obtain rfl : L5 = Ls := map_bysN_inj (hL5.trans F1.out); have HS5 := Lib.hid hS5; clear hL5 hS5; replace hB := BW_on hB hb2; replace hC := BW_on hC hb2; clear hb2)
              | (go_at_call 44; refine (same1_any _ _ _ _ HS5.out (JRow.strs (HJ.out.on hC)) (by omega)).mono ?_; rintro e w2 ⟨rfl, hb2⟩; replace hB := BW_on hB hb2; replace hC := BW_on hC hb2; clear hb2; have hcl := BW_cell hC hlast)
              | (go_at_call 33; refine (check_any t _ (by omega)).mono ?_; rintro e w2 ⟨rfl, hb2⟩; rw [F2.out]; replace hB := BW_on hB hb2; replace hC := BW_on hC hb2; clear hb2)
              | (go_at_call 34; refine (hops_any t _ (by omega)).mono ?_; rintro e w2 ⟨rfl, hb2⟩; rw [F3.out]; replace hB := BW_on hB hb2; replace hC := BW_on hC hb2; clear hb2)
              | (go_at_call 35; refine (base_any t _ (by omega)).mono ?_; rintro e w2 ⟨tb, rfl, htb, hb2⟩; obtain rfl := bysN_inj (htb.trans F4.out); replace hB := BW_on hB hb2; replace hC := BW_on hC hb2; clear hb2))
            go_ret
            exact ⟨by first | rfl | (simp; omega), hB⟩
          · have hJ := own2_jrow hown rfl
            obtain ⟨p, cap, rfl, hj⟩ := hJ
            have hlast0 := (hj (by omega)).2
            obtain ⟨g3, off3, rfl, _, hcells⟩ := hlast0
            obtain ⟨lx, hlx⟩ : ∃ lx, Ls[Ls.length - 1]? = some lx := ⟨_, List.getElem?_eq_getElem (by omega)⟩
            have hlast := hcells (Ls.length - 1) _ hlx
            have HJ : Hid (JRow wr (.slice (some ⟨g3, off3, none⟩) Ls.length cap) Ls) := Lib.hid ⟨_, cap, rfl, hj⟩
            have F := Lib.hid (words_facts hM.out (by omega) · · hL8)
            have Hjl : Hid ((pjoin (Ls.map bysN)).length ≤ 1000000) := Lib.hid (by
              have := pjoin_len (Ls.map bysN) 4 (fun x hx => by
                obtain ⟨y, hy, rfl⟩ := List.mem_map.1 hx
                rw [bysN_len]; exact hX.out y hy)
              rw [List.length_map] at this
              omega)
            clear hown hj hcells
            have hB := hb
            have hC := BW_refl wr
            clear hb hbs hM hX
            have d5 : ¬ (Ls.length : Int) ≤ 5 := by omega
            have d0 : ¬ (Ls.length : Int) = 0 := by omega
            have dw : wrap64 ((Ls.length : Int) - 1) = (Ls.length : Int) - 1 := by unfold wrap64; omega
            have dl : (Ls.length : Int) - 1 < (Ls.length : Int) := by omega
            have Hlx := Lib.hid hlx
            clear hlx
            go_wp2_with (first
              | (go_at_call 38; refine (join_any _ Ls _ (HJ.out.on hC) Hjl.out (by omega)).mono ?_; rintro e w2 ⟨t, rfl, ht, hb2⟩; obtain ⟨f1, f2, f3, f4, f5⟩ := F.out t ht; rw [decide_eq_false c5] at f2; rw [if_neg c5] at f3 f4; have F1 := Lib.hid f1; have F2 := Lib.hid f2; have F3 := Lib.hid f3; have F4 := Lib.hid f4; clear f1 f2 f3 f4 ht; replace hB := BW_on hB hb2; replace hC := BW_on hC hb2; clear hb2)
              | (go_at_call 39; refine (parts_any t m _ (by omega) (BW_cell hB Hm.out)).mono ?_; rintro e w2 ⟨v5, L5, rfl, hS5, hL5, _, _, hb2⟩; obtain rfl : L5 = Ls := map_bysN_inj (hL5.trans F1.out); have HS5 := Lib.hid hS5; clear hL5 hS5; replace hB := BW_on hB hb2; replace hC := BW_on hC hb2; clear hb2)
              | (go_at_call 44; refine (same1_any _ _ _ _ HS5.out (JRow.strs (HJ.out.on hC)) (by omega)).mono ?_; rintro e w2 ⟨rfl, hb2⟩; replace hB := BW_on hB hb2; replace hC := BW_on hC hb2; clear hb2; skip)
              | (go_at_call 33; refine (check_any t _ (by omega)).mono ?_; rintro e w2 ⟨rfl, hb2⟩; rw [F2.out]; replace hB := BW_on hB hb2; replace hC := BW_on hC hb2; clear hb2)
              | (go_at_call 34; refine (hops_any t _ (by omega)).mono ?_; rintro e w2 ⟨rfl, hb2⟩; rw [F3.out]; replace hB := BW_on hB hb2; replace hC := BW_on hC hb2; clear hb2)
              | (go_at_call 35; refine (base_any t _ (by omega)).mono ?_; rintro e w2 ⟨tb, rfl, htb, hb2⟩; obtain rfl : tb = ⟨#[]⟩ := bysN_inj (htb.trans F4.out); replace hB := BW_on hB hb2; replace hC := BW_on hC hb2; clear hb2))
            go_ret
            exact ⟨by first | rfl | (simp; omega), hB⟩
end Go.Proofs.YtkmdjnjpmhbhmaaDoor

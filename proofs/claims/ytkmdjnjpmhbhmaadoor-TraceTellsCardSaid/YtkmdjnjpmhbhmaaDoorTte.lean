/- The law TraceTells's walk. -/
import Derived.Test.YtkmdjnjpmhbhmaaDoorTjo
import Derived.Test.YtkmdjnjpmhbhmaaDoorTov
namespace Go.Proofs.YtkmdjnjpmhbhmaaDoor
open Go.RowKit
attribute [local go_sem ↓] Go.wp_at_zero Go.wp_at_succ
set_option maxHeartbeats 4000000 in
set_option maxRecDepth 100000 in
theorem l12tells_any (s0 : ByteArray) (v : Value) (L : List ByteArray) (m : Int) (w : World) (hv : Hid (Strs w v L)) (hl : L.length ≤ 9223372036854775807) (hm : w.cell? ⟨1, 0, none⟩ = some (.int .i64 m)) : Calls Tryd.prog 12 #[.string s0, v] w fun e w' => e = .returned (.bool true) ∧ Below w.heap.size w w' := by
  obtain ⟨i0, hi0, iz0, iz1, iz2⟩ := info_parts infoST
  obtain ⟨p0, cap0, rfl, hf⟩ := hv.out
  have Hf := Lib.hid hf
  have Hm := Lib.hid hm
  clear hf hv hm
  have zS := shN_size s0 210
  go_enter Tryd.func12, Tryd.ntmps12
  go_wp2_with (first | (go_at_call 25; refine (awake12_any _).mono ?_; rintro e w1 ⟨rfl, hb1⟩) | (go_at_call 26; refine (short12_any s0 210 _).mono ?_; rintro e w2 ⟨rfl, rfl⟩))
  generalize shN s0 210 = S at *
  go_loopw [6, 7] (fun v i wr => ∃ Ls : List ByteArray, Ls.length ≤ L.length ∧ Ls.length ≤ 8 ∧ i = .int .i64 (Ls.length : Int) ∧ Hid (Ls.map bysN = (L.take Ls.length).map (fun x => bysN (shN x 40))) ∧ Hid (∀ x ∈ Ls, x.size ≤ 40) ∧ own2 wr w.heap.size 9 v Ls.length (Ls.map Value.string) ∧ Below w.heap.size w wr) (fun _ i _ => 8 - (intOf i).toNat)
  case atStart => exact ⟨[], by simp, by simp, rfl, Lib.hid rfl, Lib.hid (fun x hx => by cases hx), own2.nil _ _ _, hb1⟩
  case round =>
    clear hb1
    obtain ⟨Ls, hLl, hL8, rfl, hM, hX, hown, hb⟩ := hrel
    have hbs := hb.size
    by_cases hlt : Ls.length < L.length ∧ Ls.length < 8
    · obtain ⟨hlt, hlt8⟩ := hlt
      obtain ⟨g, off, rfl, hc⟩ := Hf.out (by omega)
      have hc1 := BW_cell hb (hc Ls.length hlt)
      have hk1 : (Ls.length : Int) < (L.length : Int) := by omega
      have hk2 : (Ls.length : Int) < 8 := by omega
      have hw1 : wrap64 ((Ls.length : Int) + 1) = (Ls.length : Int) + 1 := by unfold wrap64; omega
      have hm1 : Hid ((L.take (Ls.length + 1)).map (fun x => bysN (shN x 40)) = (L.take Ls.length).map (fun x => bysN (shN x 40)) ++ [(fun x => bysN (shN x 40)) L[Ls.length]]) := Lib.hid (by rw [List.take_succ_eq_append_getElem hlt, List.map_append]; rfl)
      clear hc Hf
      generalize L[Ls.length] = z at *
      go_wp2_with (first | (go_at_call 26; refine (short12_any z 40 _).mono ?_; rintro e w2 ⟨rfl, rfl⟩) | (at_builtin; go_must (refine @wpList_push2 Tryd.prog _ _ _ _ _ wr rfl _ _ 51 rfl w.heap.size 9 i0 (.string ⟨#[]⟩) 16 Tryd.underlying51 hi0 iz0 iz1 iz2 rfl u6 Ls.length (Ls.map Value.string) ?q1 hown (.string (shN z 40)) wr.heap.size ?q2 rfl rfl ?q3 ?q4 ?q5 ?_; (case q1 => rfl); (case q2 => rfl); (case q3 => unfold maxLen; omega); (case q4 => omega); (case q5 => omega)); intro a2 w6 ha2 hg6 hn2))
      have hb6 := hb.grown hg6 (by omega) (own2.le hown)
      go_roundw
      case rel => exact ⟨Ls ++ [shN z 40], by rw [List.length_append]; simp; omega, by rw [List.length_append]; simp; omega, by rw [List.length_append]; go_num, Lib.hid (by rw [List.length_append, List.length_singleton, hm1.out, List.map_append, hM.out]; rfl), Lib.hid (fun x hx => by
        rcases List.mem_append.1 hx with hx | hx
        · exact hX.out x hx
        · simp at hx; subst hx; exact shN_size z 40), by rw [List.length_append, List.map_append]; exact ha2, hb6⟩
      case measure => simp [intOf]; omega
    · clear Hf
      by_cases ca : Ls.length < L.length
      · have hk1 : (Ls.length : Int) < (L.length : Int) := by omega
        have hk2 : ¬ (Ls.length : Int) < 8 := by omega
        have hJ := own2_jrow hown rfl
        obtain ⟨p, cap, rfl, hj⟩ := hJ
        have HJ : Hid (JRow wr (.slice p Ls.length cap) Ls) := Lib.hid ⟨p, cap, rfl, hj⟩
        have Hjl : Hid ((pjoin (Ls.map bysN)).length ≤ 1000) := Lib.hid (by
          have := pjoin_len (Ls.map bysN) 40 (fun x hx => by
            obtain ⟨y, hy, rfl⟩ := List.mem_map.1 hx
            rw [bysN_len]; exact hX.out y hy)
          rw [List.length_map] at this
          omega)
        have HX : Hid (∀ x ∈ Ls, x.size ≤ 1000) := Lib.hid (fun x hx => Nat.le_trans (hX.out x hx) (by decide))
        clear hown hj
        have hB := hb
        have hC := BW_refl wr
        clear hb hbs hM hX
        go_wp2_with (first
          | (go_at_call 39; refine (parts_any _ m _ (by omega) (BW_cell hB Hm.out)).mono ?_; rintro e w2 ⟨v5, L5, rfl, hS5, hL5, _, zl5, hb2⟩; replace hB := BW_on hB hb2; replace hC := BW_on hC hb2; clear hb2)
          | (go_at_call 45; refine (r12parts_any _ _ (by omega)).mono ?_; rintro e w2 ⟨v6, L6, rfl, hS6, hL6, _, _, hb2⟩; obtain rfl : L6 = L5 := map_bysN_inj (hL6.trans hL5.symm); have HS5 := Lib.hid (hS5.on hb2); have HS6 := Lib.hid hS6; clear hS5 hS6 hL5 hL6; replace hB := BW_on hB hb2; replace hC := BW_on hC hb2; clear hb2)
          | (go_at_call 44; refine (same1_any _ _ _ _ HS5.out HS6.out (by omega)).mono ?_; rintro e w2 ⟨rfl, hb2⟩; clear HS5 HS6; replace hB := BW_on hB hb2; replace hC := BW_on hC hb2; clear hb2)
          | (go_at_call 43; refine (r12join_any _ Ls _ (HJ.out.strs.on hC) (by omega) HX.out).mono ?_; rintro e w2 ⟨t, rfl, ht, rfl⟩; have zt : t.size ≤ 1000 := (by rw [← bysN_len, ht]; exact Hjl.out); have Ht := Lib.hid ht; clear ht)
          | (go_at_call 32; refine (part_any S _ (by omega)).mono ?_; rintro e w2 ⟨rfl, hb2⟩; replace hB := BW_on hB hb2; replace hC := BW_on hC hb2; clear hb2)
          | (go_at_call 46; refine (r12part_any S _ (by omega)).mono ?_; rintro e w2 ⟨rfl, rfl⟩)
          | (go_at_call 33; refine (check_any _ _ (by omega)).mono ?_; rintro e w2 ⟨rfl, hb2⟩; replace hB := BW_on hB hb2; replace hC := BW_on hC hb2; clear hb2)
          | (go_at_call 47; refine (r12check_any _ _ (by omega)).mono ?_; rintro e w2 ⟨rfl, hb2⟩; replace hB := BW_on hB hb2; replace hC := BW_on hC hb2; clear hb2)
          | (go_at_call 34; refine (hops_any _ _ (by omega)).mono ?_; rintro e w2 ⟨rfl, hb2⟩; replace hB := BW_on hB hb2; replace hC := BW_on hC hb2; clear hb2)
          | (go_at_call 48; refine (r12hops_any _ _ (by omega)).mono ?_; rintro e w2 ⟨rfl, hb2⟩; replace hB := BW_on hB hb2; replace hC := BW_on hC hb2; clear hb2)
          | (go_at_call 35; refine (base_any _ _ (by omega)).mono ?_; rintro e w2 ⟨tb, rfl, htb, hb2⟩; have Htb := Lib.hid htb; clear htb; replace hB := BW_on hB hb2; replace hC := BW_on hC hb2; clear hb2)
          | (go_at_call 49; refine (r12base_any _ _ (by omega)).mono ?_; rintro e w2 ⟨tc, rfl, htc, hb2⟩; obtain rfl := bysN_inj (htc.trans Htb.out.symm); clear Htb htc; replace hB := BW_on hB hb2; replace hC := BW_on hC hb2; clear hb2)
          | (go_at_call 38; refine (join_any _ Ls _ (HJ.out.on hC) (Nat.le_trans Hjl.out (by decide)) (by omega)).mono ?_; rintro e w2 ⟨tj, rfl, htj, hb2⟩; obtain rfl := bysN_inj (htj.trans Ht.out.symm); replace hB := BW_on hB hb2; replace hC := BW_on hC hb2; clear hb2))
        go_ret
        exact ⟨by first | rfl | (simp; omega), hB⟩
      · have hk1 : ¬ (Ls.length : Int) < (L.length : Int) := by omega
        have hJ := own2_jrow hown rfl
        obtain ⟨p, cap, rfl, hj⟩ := hJ
        have HJ : Hid (JRow wr (.slice p Ls.length cap) Ls) := Lib.hid ⟨p, cap, rfl, hj⟩
        have Hjl : Hid ((pjoin (Ls.map bysN)).length ≤ 1000) := Lib.hid (by
          have := pjoin_len (Ls.map bysN) 40 (fun x hx => by
            obtain ⟨y, hy, rfl⟩ := List.mem_map.1 hx
            rw [bysN_len]; exact hX.out y hy)
          rw [List.length_map] at this
          omega)
        have HX : Hid (∀ x ∈ Ls, x.size ≤ 1000) := Lib.hid (fun x hx => Nat.le_trans (hX.out x hx) (by decide))
        clear hown hj
        have hB := hb
        have hC := BW_refl wr
        clear hb hbs hM hX
        go_wp2_with (first
          | (go_at_call 39; refine (parts_any _ m _ (by omega) (BW_cell hB Hm.out)).mono ?_; rintro e w2 ⟨v5, L5, rfl, hS5, hL5, _, zl5, hb2⟩; replace hB := BW_on hB hb2; replace hC := BW_on hC hb2; clear hb2)
          | (go_at_call 45; refine (r12parts_any _ _ (by omega)).mono ?_; rintro e w2 ⟨v6, L6, rfl, hS6, hL6, _, _, hb2⟩; obtain rfl : L6 = L5 := map_bysN_inj (hL6.trans hL5.symm); have HS5 := Lib.hid (hS5.on hb2); have HS6 := Lib.hid hS6; clear hS5 hS6 hL5 hL6; replace hB := BW_on hB hb2; replace hC := BW_on hC hb2; clear hb2)
          | (go_at_call 44; refine (same1_any _ _ _ _ HS5.out HS6.out (by omega)).mono ?_; rintro e w2 ⟨rfl, hb2⟩; clear HS5 HS6; replace hB := BW_on hB hb2; replace hC := BW_on hC hb2; clear hb2)
          | (go_at_call 43; refine (r12join_any _ Ls _ (HJ.out.strs.on hC) (by omega) HX.out).mono ?_; rintro e w2 ⟨t, rfl, ht, rfl⟩; have zt : t.size ≤ 1000 := (by rw [← bysN_len, ht]; exact Hjl.out); have Ht := Lib.hid ht; clear ht)
          | (go_at_call 32; refine (part_any S _ (by omega)).mono ?_; rintro e w2 ⟨rfl, hb2⟩; replace hB := BW_on hB hb2; replace hC := BW_on hC hb2; clear hb2)
          | (go_at_call 46; refine (r12part_any S _ (by omega)).mono ?_; rintro e w2 ⟨rfl, rfl⟩)
          | (go_at_call 33; refine (check_any _ _ (by omega)).mono ?_; rintro e w2 ⟨rfl, hb2⟩; replace hB := BW_on hB hb2; replace hC := BW_on hC hb2; clear hb2)
          | (go_at_call 47; refine (r12check_any _ _ (by omega)).mono ?_; rintro e w2 ⟨rfl, hb2⟩; replace hB := BW_on hB hb2; replace hC := BW_on hC hb2; clear hb2)
          | (go_at_call 34; refine (hops_any _ _ (by omega)).mono ?_; rintro e w2 ⟨rfl, hb2⟩; replace hB := BW_on hB hb2; replace hC := BW_on hC hb2; clear hb2)
          | (go_at_call 48; refine (r12hops_any _ _ (by omega)).mono ?_; rintro e w2 ⟨rfl, hb2⟩; replace hB := BW_on hB hb2; replace hC := BW_on hC hb2; clear hb2)
          | (go_at_call 35; refine (base_any _ _ (by omega)).mono ?_; rintro e w2 ⟨tb, rfl, htb, hb2⟩; have Htb := Lib.hid htb; clear htb; replace hB := BW_on hB hb2; replace hC := BW_on hC hb2; clear hb2)
          | (go_at_call 49; refine (r12base_any _ _ (by omega)).mono ?_; rintro e w2 ⟨tc, rfl, htc, hb2⟩; obtain rfl := bysN_inj (htc.trans Htb.out.symm); clear Htb htc; replace hB := BW_on hB hb2; replace hC := BW_on hC hb2; clear hb2)
          | (go_at_call 38; refine (join_any _ Ls _ (HJ.out.on hC) (Nat.le_trans Hjl.out (by decide)) (by omega)).mono ?_; rintro e w2 ⟨tj, rfl, htj, hb2⟩; obtain rfl := bysN_inj (htj.trans Ht.out.symm); replace hB := BW_on hB hb2; replace hC := BW_on hC hb2; clear hb2))
        go_ret
        exact ⟨by first | rfl | (simp; omega), hB⟩
end Go.Proofs.YtkmdjnjpmhbhmaaDoor

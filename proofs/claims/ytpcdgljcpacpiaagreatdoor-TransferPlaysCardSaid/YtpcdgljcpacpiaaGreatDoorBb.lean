/- Contracts of layer 11 (bank): names of denominations, keys, numbers under them; the document's too. -/
import Derived.Test.YtpcdgljcpacpiaaGreatDoorBa
import Derived.Test.YtpcdgljcpacpiaaGreatDoorMN
namespace Go.Proofs.YtpcdgljcpacpiaaGreatDoor
open Go.RowKit
attribute [local go_sem ↓] Go.wp_at_zero Go.wp_at_succ
theorem bdenom_any (s : ByteArray) (w : World) : Calls Tryz.prog 90 #[.string s] w fun e w' => e = .returned (.bool (okDn (bysN s))) ∧ w = w' := by
  have hl := bysN_len s
  by_cases h0 : s.size = 0
  · obtain rfl : s = ⟨#[]⟩ := bysN_inj (List.eq_nil_of_length_eq_zero (by rw [hl]; exact h0))
    go_enter Tryz.func90, Tryz.ntmps90
    go_wp2
    go_ret
    exact ⟨rfl, rfl⟩
  · have hie : s.toList.isEmpty = false := by rw [toList_isEmpty]; exact decide_eq_false h0
    have hok : Hid (okDn (bysN s) = decide (s.size ≤ 200)) := Lib.hid (by unfold okDn; rw [hl, decide_eq_true (show 1 ≤ s.size by omega), Bool.true_and])
    by_cases h64 : s.size ≤ 200
    · have hi : (s.size : Int) ≤ 200 := by omega
      rw [decide_eq_true h64] at hok
      go_enter Tryz.func90, Tryz.ntmps90
      go_wp2
      go_ret
      exact ⟨by rw [hok.out]; rfl, rfl⟩
    · have hi : ¬ (s.size : Int) ≤ 200 := by omega
      rw [decide_eq_false h64] at hok
      go_enter Tryz.func90, Tryz.ntmps90
      go_wp2
      go_ret
      exact ⟨by rw [hok.out]; first | rfl | (simp; omega), rfl⟩
theorem r11denom_any (s : ByteArray) (w : World) : Calls Tryz.prog 60 #[.string s] w fun e w' => e = .returned (.bool (okDn (bysN s))) ∧ w = w' := by
  have hl := bysN_len s
  by_cases h0 : 1 ≤ s.size
  · have hi0 : (1 : Int) ≤ (s.size : Int) := by omega
    have hok : Hid (okDn (bysN s) = decide (s.size ≤ 200)) := Lib.hid (by unfold okDn; rw [hl, decide_eq_true h0, Bool.true_and])
    by_cases h64 : s.size ≤ 200
    · have hi : (s.size : Int) ≤ 200 := by omega
      rw [decide_eq_true h64] at hok
      go_enter Tryz.func60, Tryz.ntmps60
      go_wp2
      go_ret
      exact ⟨by rw [hok.out]; rfl, rfl⟩
    · have hi : ¬ (s.size : Int) ≤ 200 := by omega
      rw [decide_eq_false h64] at hok
      go_enter Tryz.func60, Tryz.ntmps60
      go_wp2
      go_ret
      exact ⟨by rw [hok.out]; first | rfl | (simp; omega), rfl⟩
  · have hi0 : ¬ (1 : Int) ≤ (s.size : Int) := by omega
    have hok : Hid (okDn (bysN s) = false) := Lib.hid (by unfold okDn; rw [hl, decide_eq_false h0, Bool.false_and])
    clear hl
    go_enter Tryz.func60, Tryz.ntmps60
    go_wp2
    go_ret
    exact ⟨by rw [hok.out]; first | rfl | (simp; omega), rfl⟩
set_option maxHeartbeats 1000000 in
theorem bkey_any (a d : ByteArray) (w : World) (ha : a.size ≤ 1000000) (hd : d.size ≤ 1000000) : Calls Tryz.prog 69 #[.string a, .string d] w fun e w' => e = .returned (.string (keyB a d)) ∧ Below w.heap.size w w' := by
  go_enter Tryz.func69, Tryz.ntmps69
  go_wp2_with fail
  refine (ttext_any 97 a _ (by decide) ha).mono ?_
  rintro e w1 ⟨t1, rfl, h1, hb1⟩
  have z1 : t1.size = a.size + 4 := by rw [← bysN_len, h1, tlvT_len', bysN_len]
  obtain ⟨t2, h2, a2⟩ := cat_big ⟨#[66]⟩ t1 (by show 1 + t1.size ≤ _; omega)
  have z2 : t2.size = 1 + t1.size := by rw [← bysN_len, h2, List.length_append, bysN_len, bysN_len]; rfl
  have H1 := Lib.hid h1
  have H2 := Lib.hid h2
  clear h1 h2
  go_wp2_with fail
  refine (ttext_any 100 d _ (by decide) hd).mono ?_
  rintro e w2 ⟨t3, rfl, h3, hb2⟩
  have z3 : t3.size = d.size + 4 := by rw [← bysN_len, h3, tlvT_len', bysN_len]
  obtain ⟨t4, h4, a4⟩ := cat_big t2 t3 (by omega)
  have H : Hid (t4 = keyB a d) := Lib.hid (key_of (by rw [h4, H2.out, H1.out, h3]; rfl))
  clear h3 h4
  go_wp2_with fail
  go_ret
  exact ⟨by rw [H.out]; rfl, BW_on hb1 hb2⟩
set_option maxHeartbeats 1000000 in
theorem r11key_any (a d : ByteArray) (w : World) (ha : a.size ≤ 1000000) (hd : d.size ≤ 1000000) : Calls Tryz.prog 54 #[.string a, .string d] w fun e w' => e = .returned (.string (keyB a d)) ∧ Below w.heap.size w w' := by
  go_enter Tryz.func54, Tryz.ntmps54
  go_wp2_with fail
  refine (r1text_any 97 a _ (by decide) ha).mono ?_
  rintro e w1 ⟨t1, rfl, h1, hb1⟩
  have z1 : t1.size = a.size + 4 := by rw [← bysN_len, h1, tlvT_len', bysN_len]
  obtain ⟨t2, h2, a2⟩ := cat_big ⟨#[66]⟩ t1 (by show 1 + t1.size ≤ _; omega)
  have z2 : t2.size = 1 + t1.size := by rw [← bysN_len, h2, List.length_append, bysN_len, bysN_len]; rfl
  have H1 := Lib.hid h1
  have H2 := Lib.hid h2
  clear h1 h2
  go_wp2_with fail
  refine (r1text_any 100 d _ (by decide) hd).mono ?_
  rintro e w2 ⟨t3, rfl, h3, hb2⟩
  have z3 : t3.size = d.size + 4 := by rw [← bysN_len, h3, tlvT_len', bysN_len]
  obtain ⟨t4, h4, a4⟩ := cat_big t2 t3 (by omega)
  have H : Hid (t4 = keyB a d) := Lib.hid (key_of (by rw [h4, H2.out, H1.out, h3]; rfl))
  clear h3 h4
  go_wp2_with fail
  go_ret
  exact ⟨by rw [H.out]; rfl, BW_on hb1 hb2⟩
set_option maxHeartbeats 1000000 in
theorem btot_any (d : ByteArray) (w : World) (hd : d.size ≤ 1000000) : Calls Tryz.prog 68 #[.string d] w fun e w' => e = .returned (.string (totB d)) ∧ Below w.heap.size w w' := by
  go_enter Tryz.func68, Tryz.ntmps68
  go_wp2_with fail
  refine (ttext_any 100 d _ (by decide) hd).mono ?_
  rintro e w2 ⟨t3, rfl, h3, hb2⟩
  have z3 : t3.size = d.size + 4 := by rw [← bysN_len, h3, tlvT_len', bysN_len]
  obtain ⟨t4, h4, a4⟩ := cat_big ⟨#[83]⟩ t3 (by show 1 + t3.size ≤ _; omega)
  have H : Hid (t4 = totB d) := Lib.hid (tot_of (by rw [h4, h3]; rfl))
  clear h3 h4
  go_wp2_with fail
  go_ret
  exact ⟨by rw [H.out]; rfl, hb2⟩
set_option maxHeartbeats 1000000 in
theorem r11tot_any (d : ByteArray) (w : World) (hd : d.size ≤ 1000000) : Calls Tryz.prog 55 #[.string d] w fun e w' => e = .returned (.string (totB d)) ∧ Below w.heap.size w w' := by
  go_enter Tryz.func55, Tryz.ntmps55
  go_wp2_with fail
  refine (r1text_any 100 d _ (by decide) hd).mono ?_
  rintro e w2 ⟨t3, rfl, h3, hb2⟩
  have z3 : t3.size = d.size + 4 := by rw [← bysN_len, h3, tlvT_len', bysN_len]
  obtain ⟨t4, h4, a4⟩ := cat_big ⟨#[83]⟩ t3 (by show 1 + t3.size ≤ _; omega)
  have H : Hid (t4 = totB d) := Lib.hid (tot_of (by rw [h4, h3]; rfl))
  clear h3 h4
  go_wp2_with fail
  go_ret
  exact ⟨by rw [H.out]; rfl, hb2⟩
abbrev wv (n : Nat) : Value := .agg #[.int .u64 (limb n 0), .int .u64 (limb n 1), .int .u64 (limb n 2), .int .u64 (limb n 3)]
theorem fromB (s : ByteArray) : ∃ c : Int, (c = 0 ∨ (c = 10 ∧ numB s = 0)) ∧ ∀ w, Calls Tryz.prog 111 #[.string s] w fun e w' => e = .returned (.tuple #[wv (numB s), .int .i64 c]) ∧ Below w.heap.size w w' := by
  by_cases h : s.size = 32
  · refine ⟨0, .inl rfl, fun w => ?_⟩
    have := from_yes s h w
    rw [show unb s.data.toList = numB s from (if_pos h).symm] at this
    exact this
  · have e : numB s = 0 := if_neg h
    refine ⟨10, .inr ⟨rfl, e⟩, fun w => ?_⟩
    rw [e]
    exact from_no s h w
theorem rfromB (s : ByteArray) : ∃ c : Int, (c = 0 ∨ (c = 10 ∧ numB s = 0)) ∧ ∀ w, Calls Tryz.prog 78 #[.string s] w fun e w' => e = .returned (.tuple #[wv (numB s), .int .i64 c]) ∧ Below w.heap.size w w' := by
  by_cases h : s.size = 32
  · refine ⟨0, .inl rfl, fun w => ?_⟩
    have := rfrom_yes s h w
    rw [show unb s.data.toList = numB s from (if_pos h).symm] at this
    exact this
  · have e : numB s = 0 := if_neg h
    refine ⟨10, .inr ⟨rfl, e⟩, fun w => ?_⟩
    rw [e]
    exact rfrom_no s h w
set_option maxHeartbeats 1000000 in
theorem bget_any (v : Value) (E : List Ent) (k : ByteArray) (w : World) (hv : Ents w v E) (hs : Srt E) (hl : E.length ≤ 2000) : Calls Tryz.prog 93 #[.agg #[v], .string k] w fun e w' => e = .returned (wv (ng E k)) ∧ Below w.heap.size w w' := by
  obtain ⟨q, cap, rfl⟩ := hv.len
  obtain ⟨c, hc, hf⟩ := fromB (gv E k)
  rw [show numB (gv E k) = ng E k from rfl] at hc hf
  generalize ng E k = n at hc hf ⊢
  have Hf := Lib.hid hf
  have Hc := Lib.hid hc
  clear hf hc
  have hb0 := BW_alloc (BW_alloc (BW_refl w) (.cells #[.slice q E.length cap] 27)) (.cells #[.int .u64 0, .int .u64 0, .int .u64 0, .int .u64 0] 31)
  have ko := blk2 w (.cells #[.slice q E.length cap] 27) 31 #[.int .u64 0, .int .u64 0, .int .u64 0, .int .u64 0]
  have hv0 := Lib.hid (hv.on hb0)
  clear hv
  go_enter Tryz.func93, Tryz.ntmps93
  go_wp2_with fail
  refine (get_any _ E k _ hv0.out hs (by omega)).mono ?_
  rintro e w1 ⟨rfl, hb1⟩
  replace ko := ko.on hb1
  replace hb0 := BW_on hb0 hb1
  clear hb1
  go_wp2_with fail
  refine (Hf.out _).mono ?_
  rintro e w2 ⟨rfl, hb2⟩
  replace ko := (ko.on hb2).alloc (.cells #[.int .u64 (limb n 0), .int .u64 (limb n 1), .int .u64 (limb n 2), .int .u64 (limb n 3)] 31)
  replace hb0 := BW_alloc (BW_on hb0 hb2) (.cells #[.int .u64 (limb n 0), .int .u64 (limb n 1), .int .u64 (limb n 2), .int .u64 (limb n 3)] 31)
  have k7 := blk1 w2 31 #[.int .u64 (limb n 0), .int .u64 (limb n 1), .int .u64 (limb n 2), .int .u64 (limb n 3)]
  have c7 := fun i => k7.cell i
  have co := fun i => ko.cell i
  have fo := fun i => ko.free i
  clear hb2
  rcases Hc.out with rfl | ⟨rfl, rfl⟩
  · go_wp2_with fail
    have hcc := fun i => (ko.store4 (.int .u64 (limb n 0)) (.int .u64 (limb n 1)) (.int .u64 (limb n 2)) (.int .u64 (limb n 3))).cell i
    refine bodyPost_ret (v := wv n) (by simp [results, Tryz.results93, go_sem, hcc]) rfl ⟨rfl, below_store4 hb0 (by omega) _ _ _ _⟩
  · go_wp2_with fail
    have hcc := fun i => (ko.store4 (.int .u64 0) (.int .u64 0) (.int .u64 0) (.int .u64 0)).cell i
    refine bodyPost_ret (v := wv 0) (by simp [results, Tryz.results93, go_sem, hcc]; simp [limb]) rfl ⟨rfl, below_store4 hb0 (by omega) _ _ _ _⟩
set_option maxHeartbeats 1000000 in
theorem r11get_any (v : Value) (E : List Ent) (k : ByteArray) (w : World) (hv : Ents w v E) (hl : E.length ≤ 2000) : Calls Tryz.prog 53 #[v, .string k] w fun e w' => e = .returned (wv (ng E k)) ∧ Below w.heap.size w w' := by
  obtain ⟨q, cap, rfl⟩ := hv.len
  obtain ⟨c, hc, hf⟩ := rfromB (gv E k)
  rw [show numB (gv E k) = ng E k from rfl] at hc hf
  generalize ng E k = n at hc hf ⊢
  have Hf := Lib.hid hf
  have Hc := Lib.hid hc
  clear hf hc
  have hb0 := BW_alloc (BW_refl w) (.cells #[.int .u64 0, .int .u64 0, .int .u64 0, .int .u64 0] 31)
  have ko := blk1 w 31 #[.int .u64 0, .int .u64 0, .int .u64 0, .int .u64 0]
  have hv0 := Lib.hid (hv.on hb0)
  clear hv
  go_enter Tryz.func53, Tryz.ntmps53
  go_wp2_with fail
  refine (rget_any _ E k _ hv0.out (by omega)).mono ?_
  rintro e w1 ⟨rfl, rfl⟩
  go_wp2_with fail
  refine (Hf.out _).mono ?_
  rintro e w2 ⟨rfl, hb2⟩
  replace ko := (ko.on hb2).alloc (.cells #[.int .u64 (limb n 0), .int .u64 (limb n 1), .int .u64 (limb n 2), .int .u64 (limb n 3)] 31)
  replace hb0 := BW_alloc (BW_on hb0 hb2) (.cells #[.int .u64 (limb n 0), .int .u64 (limb n 1), .int .u64 (limb n 2), .int .u64 (limb n 3)] 31)
  have k7 := blk1 w2 31 #[.int .u64 (limb n 0), .int .u64 (limb n 1), .int .u64 (limb n 2), .int .u64 (limb n 3)]
  have c7 := fun i => k7.cell i
  have co := fun i => ko.cell i
  have fo := fun i => ko.free i
  clear hb2
  rcases Hc.out with rfl | ⟨rfl, rfl⟩
  · go_wp2_with fail
    have hcc := fun i => (ko.store4 (.int .u64 (limb n 0)) (.int .u64 (limb n 1)) (.int .u64 (limb n 2)) (.int .u64 (limb n 3))).cell i
    refine bodyPost_ret (v := wv n) (by simp [results, Tryz.results53, go_sem, hcc]) rfl ⟨rfl, below_store4 hb0 (by omega) _ _ _ _⟩
  · go_wp2_with fail
    have hcc := fun i => (ko.store4 (.int .u64 0) (.int .u64 0) (.int .u64 0) (.int .u64 0)).cell i
    refine bodyPost_ret (v := wv 0) (by simp [results, Tryz.results53, go_sem, hcc]; simp [limb]) rfl ⟨rfl, below_store4 hb0 (by omega) _ _ _ _⟩
end Go.Proofs.YtpcdgljcpacpiaaGreatDoor

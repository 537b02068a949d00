/- Pa, Pb, Pc, Pd, Pe in one text. -/
import Derived.Test.YtbimnfmjgmfijaaDoorMT
import Derived.Test.YtbimnfmjgmfijaaDoorRf
import Derived.Lib.ConvBytes
namespace Go.Proofs.YtbimnfmjgmfijaaDoor
open Go.RowKit
attribute [local go_sem ↓] Go.wp_at_zero Go.wp_at_succ
def hd4 (c n : Nat) : List Nat := [c, n / 65536 % 256, n / 256 % 256, n % 256]
/-- A body: its letter, its length in three bytes, the text. -/
def tlvT (c : Nat) (l : List Nat) : List Nat := hd4 c l.length ++ l
/-- A number's bytes, the greatest first, none for 0. -/
def digB (n : Nat) : List Nat := if _h : n = 0 then [] else digB (n / 256) ++ [n % 256]
termination_by n
decreasing_by omega
theorem digB_zero : digB 0 = [] := by rw [digB]; simp
theorem digB_pos {n : Nat} (h : n ≠ 0) : digB n = digB (n / 256) ++ [n % 256] := by rw [digB]; simp [h]
theorem u8L_bys {l : List Nat} (h : ∀ x ∈ l, x < 256) : bysN ⟨(l.map UInt8.ofNat).toArray⟩ = l := by
  unfold bysN
  simp only [List.map_map]
  conv => rhs; rw [← List.map_id l]
  refine List.map_congr_left fun x hx => ?_
  show (UInt8.ofNat x).toNat = x
  rw [UInt8.toNat_ofNat_of_lt' (by show x < 256; exact h x hx)]
theorem conv_row (w : World) (g cap : Nat) (l : List Nat) (h : ∀ x ∈ l, x < 256) (hc : ∀ (j x : Nat), l[j]? = some x → w.cell? ⟨g, j, none⟩ = some (.int .u8 (x : Int))) :
    (convert 37 9 (.slice (some ⟨g, 0, none⟩) l.length cap)).run Tryd.prog w = .ok (.string ⟨(l.map UInt8.ofNat).toArray⟩) w := by
  have := run_convert_bytes_back (P := Tryd.prog) w 37 9 5 ⟨g, 0, none⟩ cap (l.map UInt8.ofNat) Tryd.underlying37 Tryd.underlying5 Tryd.underlying9 (fun j hj => by
    have e1 : (⟨g, 0, none⟩ : Addr).add j = ⟨g, j, none⟩ := by unfold Addr.add; split <;> simp_all
    rw [List.length_map] at hj
    have hx := h l[j] (List.getElem_mem _)
    rw [e1, hc j _ (List.getElem?_eq_getElem hj), List.getElem_map, UInt8.toNat_ofNat_of_lt' (by show l[j] < 256; exact hx)])
  rwa [List.length_map] at this
theorem heads_any (c n : Nat) (w : World) : Calls Tryd.prog 61 #[.int .u8 (c : Int), .int .i64 (n : Int)] w fun e w' =>
    e = .returned (.agg #[.int .u8 (c : Int), .int .u8 ((n / 65536 % 256 : Nat) : Int), .int .u8 ((n / 256 % 256 : Nat) : Int), .int .u8 ((n % 256 : Nat) : Int)]) ∧ Below w.heap.size w w' := by
  have e1 : (n : Int) / 65536 % 256 = ((n / 65536 % 256 : Nat) : Int) := by omega
  have e2 : (n : Int) / 256 % 256 = ((n / 256 % 256 : Nat) : Int) := by omega
  have e3 : (n : Int) % 256 = ((n % 256 : Nat) : Int) := by omega
  generalize n / 65536 % 256 = x1 at *
  generalize n / 256 % 256 = x2 at *
  generalize n % 256 = x3 at *
  go_enter Tryd.func61, Tryd.ntmps61
  go_wp2
  refine bodyPost_ret (v := .agg #[.int .u8 (c : Int), .int .u8 (x1 : Int), .int .u8 (x2 : Int), .int .u8 (x3 : Int)]) (by simp [results, Tryd.results61, go_sem]) rfl ⟨rfl, BW_alloc (BW_refl w) _⟩
set_option maxRecDepth 100000 in
theorem ttext_any (c : Nat) (s : ByteArray) (w : World) (hc : c < 256) (hs : s.size ≤ 1000000) :
    Calls Tryd.prog 36 #[.int .u8 (c : Int), .string s] w fun e w' => ∃ t, e = .returned (.string t) ∧ bysN t = tlvT c (bysN s) ∧ Below w.heap.size w w' := by
  have hmin : min (s.size : Int) 16777215 = (s.size : Int) := by omega
  have hex : s.extract 0 s.size = s := bysN_inj (by rw [bysN_extract, List.drop_zero, List.take_of_length_le (by rw [bysN_len]; exact Nat.le_refl _)])
  have htl : Hid (tlvT c (bysN s) = [c, s.size / 65536 % 256, s.size / 256 % 256, s.size % 256] ++ bysN s) := Lib.hid (by unfold tlvT hd4; rw [bysN_len])
  have hlt : ∀ x ∈ [c, s.size / 65536 % 256, s.size / 256 % 256, s.size % 256], x < 256 := by
    intro x hx
    simp only [List.mem_cons, List.not_mem_nil, or_false] at hx
    omega
  have Hlt := Lib.hid hlt
  go_enter Tryd.func36, Tryd.ntmps36
  go_wp2_with fail
  refine (heads_any c s.size _).mono ?_
  rintro e w1 ⟨rfl, hb1⟩
  generalize s.size / 65536 % 256 = x1 at *
  generalize s.size / 256 % 256 = x2 at *
  generalize s.size % 256 = x3 at *
  have k4 := blk1 w1 80 #[.int .u8 (c : Int), .int .u8 (x1 : Int), .int .u8 (x2 : Int), .int .u8 (x3 : Int)]
  have hcv := conv_row _ w1.heap.size 4 [c, x1, x2, x3] Hlt.out (fun j x hx => by
    rw [k4.cell j]
    match j with
    | 0 => cases hx; rfl
    | 1 => cases hx; rfl
    | 2 => cases hx; rfl
    | 3 => cases hx; rfl
    | j + 4 => cases hx)
  obtain ⟨h4, hh4⟩ : ∃ h4 : ByteArray, (⟨([c, x1, x2, x3].map UInt8.ofNat).toArray⟩ : ByteArray) = h4 := ⟨_, rfl⟩
  have hbh : bysN h4 = [c, x1, x2, x3] := by rw [← hh4]; exact u8L_bys Hlt.out
  have hz4 : h4.size = 4 := by rw [← bysN_len, hbh]; rfl
  rw [hh4] at hcv
  have hcv' : (convert 37 9 (.slice (some ⟨w1.heap.size, 0, none⟩) 4 4)).run Tryd.prog _ = .ok (.string h4) _ := hcv
  obtain ⟨t, ht, hadd⟩ := cat_big h4 s (by omega)
  have HT : Hid (bysN t = tlvT c (bysN s)) := Lib.hid (by rw [ht, hbh, htl.out])
  clear hcv hh4 hbh ht k4 hlt
  go_wp2
  go_ret
  exact ⟨_, rfl, HT.out, BW_alloc hb1 _⟩
end Go.Proofs.YtbimnfmjgmfijaaDoor
namespace Go.Proofs.YtbimnfmjgmfijaaDoor
open Go.RowKit
attribute [local go_sem ↓] Go.wp_at_zero Go.wp_at_succ
attribute [local go_sem] conv_f1
theorem infoB1 : (Tryd.prog.info? 5).map (fun i => (i.zero, i.size, i.bytes)) = some (some (.int .u8 0), 1, 1) := by kernel_rfl
def u8V (l : List Nat) : List Value := l.map fun (x : Nat) => .int .u8 (x : Int)
theorem own2.sl {w : World} {base n : Nat} {e : TypeId} {v : Value} {xs : List Value} (h : own2 w base e v n xs) : ∃ p cap, v = .slice p n cap := by
  rcases h with ⟨rfl, rfl, _⟩ | h
  · exact ⟨_, _, rfl⟩
  · obtain ⟨g, cap, rfl, _⟩ := h.form
    exact ⟨_, _, rfl⟩
theorem conv_own2 {w : World} {base : Nat} {v : Value} {l : List Nat} (h : own2 w base 5 v l.length (u8V l)) (hl : ∀ x ∈ l, x < 256) : ∃ t, bysN t = l ∧ (convert 37 9 v).run Tryd.prog w = .ok (.string t) w := by
  rcases h with ⟨rfl, h0, _⟩ | h
  · have e := List.eq_nil_of_length_eq_zero h0
    subst e
    exact ⟨ByteArray.empty, rfl, run_convert_bytes_nil w 37 5 Tryd.underlying37 Tryd.underlying5 0 0 9 Tryd.underlying9⟩
  · obtain ⟨g, cap, rfl, _, _, _, _, hc⟩ := h.form
    exact ⟨_, u8L_bys hl, conv_row w g cap l hl (fun j x hx => hc j _ (by unfold u8V; rw [List.getElem?_map, hx]; rfl))⟩
theorem digB_lt (n : Nat) : ∀ x ∈ digB n, x < 256 := by
  induction n using Nat.strongRecOn with
  | ind n ih =>
    intro x hx
    by_cases h : n = 0
    · rw [h, digB_zero] at hx; cases hx
    · rw [digB_pos h] at hx
      rcases List.mem_append.1 hx with hx | hx
      · exact ih (n / 256) (by omega) x hx
      · simp at hx; omega
theorem digB_len (k : Nat) : ∀ n, n < 256 ^ k → (digB n).length ≤ k := by
  induction k with
  | zero => intro n h; have : n = 0 := by omega
            rw [this, digB_zero]; simp
  | succ k ih =>
    intro n h
    by_cases h0 : n = 0
    · rw [h0, digB_zero]; simp
    · rw [digB_pos h0, List.length_append, List.length_singleton]
      have := ih (n / 256) (by rw [Nat.pow_succ] at h; omega)
      omega
theorem digB_ne {n : Nat} (h : n ≠ 0) : 0 < (digB n).length := by rw [digB_pos h, List.length_append]; simp
set_option maxHeartbeats 4000000 in
set_option maxRecDepth 100000 in
theorem tdig_any (n : Nat) (w : World) (hn : n < 18446744073709551616) : Calls Tryd.prog 73 #[.int .u64 (n : Int)] w fun e w' => ∃ t, e = .returned (.string t) ∧ bysN t = digB n ∧ Below w.heap.size w w' := by
  obtain ⟨i0, hi0, iz0, iz1, iz2⟩ := info_parts infoB1
  have h80 : n / 256 ^ 8 = 0 := Nat.div_eq_of_lt hn
  go_enter Tryd.func73, Tryd.ntmps73
  go_wp2_with fail
  go_loopw [3, 4, 5] (fun v i _ wr => ∃ (q : Nat) (L : List Nat), q ≤ 8 ∧ i = .int .i64 (8 * (q : Int) - 8) ∧ Hid (L = digB (n / 256 ^ q)) ∧ L.length ≤ 8 ∧ own2 wr w.heap.size 5 v L.length (u8V L) ∧ Below w.heap.size w wr) (fun _ i _ _ => (intOf i + 8).toNat)
  case atStart => exact ⟨8, [], by omega, rfl, Lib.hid (by rw [h80, digB_zero]), by simp, own2.nil _ _ _, BW_refl w⟩
  case round =>
    obtain ⟨q, L, hq, rfl, hL, hLl, hown, hb⟩ := hrel
    have hbs := hb.size
    clear h80
    by_cases h0 : 0 < q
    · obtain ⟨p, rfl⟩ : ∃ p, q = p + 1 := ⟨q - 1, by omega⟩
      rw [show 8 * ((p + 1 : Nat) : Int) - 8 = 8 * (p : Int) from by omega]
      have hdiv : Hid (n / 256 ^ (p + 1) = n / 256 ^ p / 256) := Lib.hid (by rw [Nat.pow_succ, Nat.div_div_eq_div_mul])
      have hMl : Hid ((digB (n / 256 ^ p)).length ≤ 8) := Lib.hid (digB_len 8 _ (Nat.lt_of_le_of_lt (Nat.div_le_self _ _) hn))
      obtain ⟨pv, cap, rfl⟩ := hown.sl
      obtain ⟨M, hM⟩ : ∃ M, n / 256 ^ p = M := ⟨_, rfl⟩
      rw [hM] at hMl
      have Hstep : Hid (M ≠ 0 → digB M = L ++ [M % 256]) := Lib.hid (fun h => by rw [digB_pos h, hL.out, hdiv.out, hM])
      have Hzero : Hid (M = 0 → L = []) := Lib.hid (fun h => by rw [hL.out, hdiv.out, hM, h, digB_zero])
      have Hpos : Hid (M % 256 = 0 → M ≠ 0 → 0 < L.length) := Lib.hid (fun h h1 => by rw [hL.out, hdiv.out, hM]; exact digB_ne (by omega))
      clear hL hdiv
      have hp8 : p = 0 ∨ p = 1 ∨ p = 2 ∨ p = 3 ∨ p = 4 ∨ p = 5 ∨ p = 6 ∨ p = 7 := by omega
      have Hq := Lib.hid hq
      have Hn := Lib.hid hn
      clear hq h0 hn
      rcases hp8 with rfl | rfl | rfl | rfl | rfl | rfl | rfl | rfl
      · have hM2 : n = M := by rw [← hM]; simp
        have hc : (n : Int) % 256 = ((M % 256 : Nat) : Int) := by rw [← hM2]; omega
        have hw1 : wrap64 (0 - 8) = -8 := by unfold wrap64; omega
        have HM2 := Lib.hid hM2
        clear hM hM2
        by_cases hM0 : M = 0
        · have hL0 := Hzero.out hM0
          subst hL0
          subst hM0
          go_wp2_with fail
          go_roundw
          case rel => exact ⟨0, [], by omega, rfl, Lib.hid (by rw [show n / 256 ^ 0 = n by simp, HM2.out, digB_zero]), by simp, hown, hb⟩
          case measure => simp [intOf]
        · have hst := Lib.hid (Hstep.out hM0)
          have hsl : Hid (L.length + 1 ≤ 8) := Lib.hid (by have := hMl.out; rw [hst.out, List.length_append, List.length_singleton] at this; exact this)
          have hsl2 := hsl.out
          by_cases hc0 : M % 256 = 0
          · have hlp : 0 < (L.length : Int) := by have := Hpos.out hc0 hM0; omega
            rw [hc0] at hc
            have hbyte : Hid (M % 256 = 0) := Lib.hid hc0
            clear hc0 hM0 Hpos
            go_wp2_with (at_builtin; go_must (refine @wpList_push2 Tryd.prog _ _ _ _ _ wr rfl _ _ 37 rfl w.heap.size 5 i0 (.int .u8 0) 1 Tryd.underlying37 hi0 iz0 iz1 iz2 rfl (.slice pv L.length cap) L.length (u8V L) ?q1 hown (.int .u8 0) wr.heap.size ?q2 rfl rfl ?q3 ?q4 ?q5 ?_; (case q1 => rfl); (case q2 => rfl); (case q3 => unfold maxLen; omega); (case q4 => omega); (case q5 => omega)); intro a2 w6 ha2 hg6 hn2)
            have hb6 := hb.grown hg6 (by omega) (own2.le hown)
            go_roundw
            case rel => exact ⟨0, L ++ [0], by omega, rfl, Lib.hid (by rw [show n / 256 ^ 0 = n by simp, HM2.out, hst.out, hbyte.out]), by rw [List.length_append, List.length_singleton]; exact hsl2, by rw [List.length_append, u8V, List.map_append]; exact ha2, hb6⟩
            case measure => simp [intOf]
          · generalize hx : M % 256 = x at *
            have Hx := Lib.hid hx
            have hxi : ¬ (x : Int) = 0 := by omega
            clear hc0 hM0 Hpos hx
            go_wp2_with (at_builtin; go_must (refine @wpList_push2 Tryd.prog _ _ _ _ _ wr rfl _ _ 37 rfl w.heap.size 5 i0 (.int .u8 0) 1 Tryd.underlying37 hi0 iz0 iz1 iz2 rfl (.slice pv L.length cap) L.length (u8V L) ?q1 hown (.int .u8 (x : Int)) wr.heap.size ?q2 rfl rfl ?q3 ?q4 ?q5 ?_; (case q1 => rfl); (case q2 => rfl); (case q3 => unfold maxLen; omega); (case q4 => omega); (case q5 => omega)); intro a2 w6 ha2 hg6 hn2)
            have hb6 := hb.grown hg6 (by omega) (own2.le hown)
            go_roundw
            case rel => exact ⟨0, L ++ [x], by omega, rfl, Lib.hid (by rw [show n / 256 ^ 0 = n by simp, HM2.out, hst.out]), by rw [List.length_append, List.length_singleton]; exact hsl2, by rw [List.length_append, u8V, List.map_append]; exact ha2, hb6⟩
            case measure => simp [intOf]
      · have hM2 : n / 256 = M := hM
        have hc : (n : Int) / 256 % 256 = ((M % 256 : Nat) : Int) := by rw [← hM2]; omega
        have hw1 : wrap64 (8 - 8) = 0 := by unfold wrap64; omega
        have HM2 := Lib.hid hM2
        clear hM hM2
        by_cases hM0 : M = 0
        · have hL0 := Hzero.out hM0
          subst hL0
          subst hM0
          go_wp2_with fail
          go_roundw
          case rel => exact ⟨1, [], by omega, rfl, Lib.hid (by rw [show n / 256 ^ 1 = 0 from HM2.out, digB_zero]), by simp, hown, hb⟩
          case measure => simp [intOf]
        · have hst := Lib.hid (Hstep.out hM0)
          have hsl : Hid (L.length + 1 ≤ 8) := Lib.hid (by have := hMl.out; rw [hst.out, List.length_append, List.length_singleton] at this; exact this)
          have hsl2 := hsl.out
          by_cases hc0 : M % 256 = 0
          · have hlp : 0 < (L.length : Int) := by have := Hpos.out hc0 hM0; omega
            rw [hc0] at hc
            have hbyte : Hid (M % 256 = 0) := Lib.hid hc0
            clear hc0 hM0 Hpos
            go_wp2_with (at_builtin; go_must (refine @wpList_push2 Tryd.prog _ _ _ _ _ wr rfl _ _ 37 rfl w.heap.size 5 i0 (.int .u8 0) 1 Tryd.underlying37 hi0 iz0 iz1 iz2 rfl (.slice pv L.length cap) L.length (u8V L) ?q1 hown (.int .u8 0) wr.heap.size ?q2 rfl rfl ?q3 ?q4 ?q5 ?_; (case q1 => rfl); (case q2 => rfl); (case q3 => unfold maxLen; omega); (case q4 => omega); (case q5 => omega)); intro a2 w6 ha2 hg6 hn2)
            have hb6 := hb.grown hg6 (by omega) (own2.le hown)
            go_roundw
            case rel => exact ⟨1, L ++ [0], by omega, rfl, Lib.hid (by rw [show n / 256 ^ 1 = M from HM2.out, hst.out, hbyte.out]), by rw [List.length_append, List.length_singleton]; exact hsl2, by rw [List.length_append, u8V, List.map_append]; exact ha2, hb6⟩
            case measure => simp [intOf]
          · generalize hx : M % 256 = x at *
            have Hx := Lib.hid hx
            have hxi : ¬ (x : Int) = 0 := by omega
            clear hc0 hM0 Hpos hx
            go_wp2_with (at_builtin; go_must (refine @wpList_push2 Tryd.prog _ _ _ _ _ wr rfl _ _ 37 rfl w.heap.size 5 i0 (.int .u8 0) 1 Tryd.underlying37 hi0 iz0 iz1 iz2 rfl (.slice pv L.length cap) L.length (u8V L) ?q1 hown (.int .u8 (x : Int)) wr.heap.size ?q2 rfl rfl ?q3 ?q4 ?q5 ?_; (case q1 => rfl); (case q2 => rfl); (case q3 => unfold maxLen; omega); (case q4 => omega); (case q5 => omega)); intro a2 w6 ha2 hg6 hn2)
            have hb6 := hb.grown hg6 (by omega) (own2.le hown)
            go_roundw
            case rel => exact ⟨1, L ++ [x], by omega, rfl, Lib.hid (by rw [show n / 256 ^ 1 = M from HM2.out, hst.out]), by rw [List.length_append, List.length_singleton]; exact hsl2, by rw [List.length_append, u8V, List.map_append]; exact ha2, hb6⟩
            case measure => simp [intOf]
      · have hM2 : n / 65536 = M := hM
        have hc : (n : Int) / 65536 % 256 = ((M % 256 : Nat) : Int) := by rw [← hM2]; omega
        have hw1 : wrap64 (16 - 8) = 8 := by unfold wrap64; omega
        have HM2 := Lib.hid hM2
        clear hM hM2
        by_cases hM0 : M = 0
        · have hL0 := Hzero.out hM0
          subst hL0
          subst hM0
          go_wp2_with fail
          go_roundw
          case rel => exact ⟨2, [], by omega, rfl, Lib.hid (by rw [show n / 256 ^ 2 = 0 from HM2.out, digB_zero]), by simp, hown, hb⟩
          case measure => simp [intOf]
        · have hst := Lib.hid (Hstep.out hM0)
          have hsl : Hid (L.length + 1 ≤ 8) := Lib.hid (by have := hMl.out; rw [hst.out, List.length_append, List.length_singleton] at this; exact this)
          have hsl2 := hsl.out
          by_cases hc0 : M % 256 = 0
          · have hlp : 0 < (L.length : Int) := by have := Hpos.out hc0 hM0; omega
            rw [hc0] at hc
            have hbyte : Hid (M % 256 = 0) := Lib.hid hc0
            clear hc0 hM0 Hpos
            go_wp2_with (at_builtin; go_must (refine @wpList_push2 Tryd.prog _ _ _ _ _ wr rfl _ _ 37 rfl w.heap.size 5 i0 (.int .u8 0) 1 Tryd.underlying37 hi0 iz0 iz1 iz2 rfl (.slice pv L.length cap) L.length (u8V L) ?q1 hown (.int .u8 0) wr.heap.size ?q2 rfl rfl ?q3 ?q4 ?q5 ?_; (case q1 => rfl); (case q2 => rfl); (case q3 => unfold maxLen; omega); (case q4 => omega); (case q5 => omega)); intro a2 w6 ha2 hg6 hn2)
            have hb6 := hb.grown hg6 (by omega) (own2.le hown)
            go_roundw
            case rel => exact ⟨2, L ++ [0], by omega, rfl, Lib.hid (by rw [show n / 256 ^ 2 = M from HM2.out, hst.out, hbyte.out]), by rw [List.length_append, List.length_singleton]; exact hsl2, by rw [List.length_append, u8V, List.map_append]; exact ha2, hb6⟩
            case measure => simp [intOf]
          · generalize hx : M % 256 = x at *
            have Hx := Lib.hid hx
            have hxi : ¬ (x : Int) = 0 := by omega
            clear hc0 hM0 Hpos hx
            go_wp2_with (at_builtin; go_must (refine @wpList_push2 Tryd.prog _ _ _ _ _ wr rfl _ _ 37 rfl w.heap.size 5 i0 (.int .u8 0) 1 Tryd.underlying37 hi0 iz0 iz1 iz2 rfl (.slice pv L.length cap) L.length (u8V L) ?q1 hown (.int .u8 (x : Int)) wr.heap.size ?q2 rfl rfl ?q3 ?q4 ?q5 ?_; (case q1 => rfl); (case q2 => rfl); (case q3 => unfold maxLen; omega); (case q4 => omega); (case q5 => omega)); intro a2 w6 ha2 hg6 hn2)
            have hb6 := hb.grown hg6 (by omega) (own2.le hown)
            go_roundw
            case rel => exact ⟨2, L ++ [x], by omega, rfl, Lib.hid (by rw [show n / 256 ^ 2 = M from HM2.out, hst.out]), by rw [List.length_append, List.length_singleton]; exact hsl2, by rw [List.length_append, u8V, List.map_append]; exact ha2, hb6⟩
            case measure => simp [intOf]
      · have hM2 : n / 16777216 = M := hM
        have hc : (n : Int) / 16777216 % 256 = ((M % 256 : Nat) : Int) := by rw [← hM2]; omega
        have hw1 : wrap64 (24 - 8) = 16 := by unfold wrap64; omega
        have HM2 := Lib.hid hM2
        clear hM hM2
        by_cases hM0 : M = 0
        · have hL0 := Hzero.out hM0
          subst hL0
          subst hM0
          go_wp2_with fail
          go_roundw
          case rel => exact ⟨3, [], by omega, rfl, Lib.hid (by rw [show n / 256 ^ 3 = 0 from HM2.out, digB_zero]), by simp, hown, hb⟩
          case measure => simp [intOf]
        · have hst := Lib.hid (Hstep.out hM0)
          have hsl : Hid (L.length + 1 ≤ 8) := Lib.hid (by have := hMl.out; rw [hst.out, List.length_append, List.length_singleton] at this; exact this)
          have hsl2 := hsl.out
          by_cases hc0 : M % 256 = 0
          · have hlp : 0 < (L.length : Int) := by have := Hpos.out hc0 hM0; omega
            rw [hc0] at hc
            have hbyte : Hid (M % 256 = 0) := Lib.hid hc0
            clear hc0 hM0 Hpos
            go_wp2_with (at_builtin; go_must (refine @wpList_push2 Tryd.prog _ _ _ _ _ wr rfl _ _ 37 rfl w.heap.size 5 i0 (.int .u8 0) 1 Tryd.underlying37 hi0 iz0 iz1 iz2 rfl (.slice pv L.length cap) L.length (u8V L) ?q1 hown (.int .u8 0) wr.heap.size ?q2 rfl rfl ?q3 ?q4 ?q5 ?_; (case q1 => rfl); (case q2 => rfl); (case q3 => unfold maxLen; omega); (case q4 => omega); (case q5 => omega)); intro a2 w6 ha2 hg6 hn2)
            have hb6 := hb.grown hg6 (by omega) (own2.le hown)
            go_roundw
            case rel => exact ⟨3, L ++ [0], by omega, rfl, Lib.hid (by rw [show n / 256 ^ 3 = M from HM2.out, hst.out, hbyte.out]), by rw [List.length_append, List.length_singleton]; exact hsl2, by rw [List.length_append, u8V, List.map_append]; exact ha2, hb6⟩
            case measure => simp [intOf]
          · generalize hx : M % 256 = x at *
            have Hx := Lib.hid hx
            have hxi : ¬ (x : Int) = 0 := by omega
            clear hc0 hM0 Hpos hx
            go_wp2_with (at_builtin; go_must (refine @wpList_push2 Tryd.prog _ _ _ _ _ wr rfl _ _ 37 rfl w.heap.size 5 i0 (.int .u8 0) 1 Tryd.underlying37 hi0 iz0 iz1 iz2 rfl (.slice pv L.length cap) L.length (u8V L) ?q1 hown (.int .u8 (x : Int)) wr.heap.size ?q2 rfl rfl ?q3 ?q4 ?q5 ?_; (case q1 => rfl); (case q2 => rfl); (case q3 => unfold maxLen; omega); (case q4 => omega); (case q5 => omega)); intro a2 w6 ha2 hg6 hn2)
            have hb6 := hb.grown hg6 (by omega) (own2.le hown)
            go_roundw
            case rel => exact ⟨3, L ++ [x], by omega, rfl, Lib.hid (by rw [show n / 256 ^ 3 = M from HM2.out, hst.out]), by rw [List.length_append, List.length_singleton]; exact hsl2, by rw [List.length_append, u8V, List.map_append]; exact ha2, hb6⟩
            case measure => simp [intOf]
      · have hM2 : n / 4294967296 = M := hM
        have hc : (n : Int) / 4294967296 % 256 = ((M % 256 : Nat) : Int) := by rw [← hM2]; omega
        have hw1 : wrap64 (32 - 8) = 24 := by unfold wrap64; omega
        have HM2 := Lib.hid hM2
        clear hM hM2
        by_cases hM0 : M = 0
        · have hL0 := Hzero.out hM0
          subst hL0
          subst hM0
          go_wp2_with fail
          go_roundw
          case rel => exact ⟨4, [], by omega, rfl, Lib.hid (by rw [show n / 256 ^ 4 = 0 from HM2.out, digB_zero]), by simp, hown, hb⟩
          case measure => simp [intOf]
        · have hst := Lib.hid (Hstep.out hM0)
          have hsl : Hid (L.length + 1 ≤ 8) := Lib.hid (by have := hMl.out; rw [hst.out, List.length_append, List.length_singleton] at this; exact this)
          have hsl2 := hsl.out
          by_cases hc0 : M % 256 = 0
          · have hlp : 0 < (L.length : Int) := by have := Hpos.out hc0 hM0; omega
            rw [hc0] at hc
            have hbyte : Hid (M % 256 = 0) := Lib.hid hc0
            clear hc0 hM0 Hpos
            go_wp2_with (at_builtin; go_must (refine @wpList_push2 Tryd.prog _ _ _ _ _ wr rfl _ _ 37 rfl w.heap.size 5 i0 (.int .u8 0) 1 Tryd.underlying37 hi0 iz0 iz1 iz2 rfl (.slice pv L.length cap) L.length (u8V L) ?q1 hown (.int .u8 0) wr.heap.size ?q2 rfl rfl ?q3 ?q4 ?q5 ?_; (case q1 => rfl); (case q2 => rfl); (case q3 => unfold maxLen; omega); (case q4 => omega); (case q5 => omega)); intro a2 w6 ha2 hg6 hn2)
            have hb6 := hb.grown hg6 (by omega) (own2.le hown)
            go_roundw
            case rel => exact ⟨4, L ++ [0], by omega, rfl, Lib.hid (by rw [show n / 256 ^ 4 = M from HM2.out, hst.out, hbyte.out]), by rw [List.length_append, List.length_singleton]; exact hsl2, by rw [List.length_append, u8V, List.map_append]; exact ha2, hb6⟩
            case measure => simp [intOf]
          · generalize hx : M % 256 = x at *
            have Hx := Lib.hid hx
            have hxi : ¬ (x : Int) = 0 := by omega
            clear hc0 hM0 Hpos hx
            go_wp2_with (at_builtin; go_must (refine @wpList_push2 Tryd.prog _ _ _ _ _ wr rfl _ _ 37 rfl w.heap.size 5 i0 (.int .u8 0) 1 Tryd.underlying37 hi0 iz0 iz1 iz2 rfl (.slice pv L.length cap) L.length (u8V L) ?q1 hown (.int .u8 (x : Int)) wr.heap.size ?q2 rfl rfl ?q3 ?q4 ?q5 ?_; (case q1 => rfl); (case q2 => rfl); (case q3 => unfold maxLen; omega); (case q4 => omega); (case q5 => omega)); intro a2 w6 ha2 hg6 hn2)
            have hb6 := hb.grown hg6 (by omega) (own2.le hown)
            go_roundw
            case rel => exact ⟨4, L ++ [x], by omega, rfl, Lib.hid (by rw [show n / 256 ^ 4 = M from HM2.out, hst.out]), by rw [List.length_append, List.length_singleton]; exact hsl2, by rw [List.length_append, u8V, List.map_append]; exact ha2, hb6⟩
            case measure => simp [intOf]
      · have hM2 : n / 1099511627776 = M := hM
        have hc : (n : Int) / 1099511627776 % 256 = ((M % 256 : Nat) : Int) := by rw [← hM2]; omega
        have hw1 : wrap64 (40 - 8) = 32 := by unfold wrap64; omega
        have HM2 := Lib.hid hM2
        clear hM hM2
        by_cases hM0 : M = 0
        · have hL0 := Hzero.out hM0
          subst hL0
          subst hM0
          go_wp2_with fail
          go_roundw
          case rel => exact ⟨5, [], by omega, rfl, Lib.hid (by rw [show n / 256 ^ 5 = 0 from HM2.out, digB_zero]), by simp, hown, hb⟩
          case measure => simp [intOf]
        · have hst := Lib.hid (Hstep.out hM0)
          have hsl : Hid (L.length + 1 ≤ 8) := Lib.hid (by have := hMl.out; rw [hst.out, List.length_append, List.length_singleton] at this; exact this)
          have hsl2 := hsl.out
          by_cases hc0 : M % 256 = 0
          · have hlp : 0 < (L.length : Int) := by have := Hpos.out hc0 hM0; omega
            rw [hc0] at hc
            have hbyte : Hid (M % 256 = 0) := Lib.hid hc0
            clear hc0 hM0 Hpos
            go_wp2_with (at_builtin; go_must (refine @wpList_push2 Tryd.prog _ _ _ _ _ wr rfl _ _ 37 rfl w.heap.size 5 i0 (.int .u8 0) 1 Tryd.underlying37 hi0 iz0 iz1 iz2 rfl (.slice pv L.length cap) L.length (u8V L) ?q1 hown (.int .u8 0) wr.heap.size ?q2 rfl rfl ?q3 ?q4 ?q5 ?_; (case q1 => rfl); (case q2 => rfl); (case q3 => unfold maxLen; omega); (case q4 => omega); (case q5 => omega)); intro a2 w6 ha2 hg6 hn2)
            have hb6 := hb.grown hg6 (by omega) (own2.le hown)
            go_roundw
            case rel => exact ⟨5, L ++ [0], by omega, rfl, Lib.hid (by rw [show n / 256 ^ 5 = M from HM2.out, hst.out, hbyte.out]), by rw [List.length_append, List.length_singleton]; exact hsl2, by rw [List.length_append, u8V, List.map_append]; exact ha2, hb6⟩
            case measure => simp [intOf]
          · generalize hx : M % 256 = x at *
            have Hx := Lib.hid hx
            have hxi : ¬ (x : Int) = 0 := by omega
            clear hc0 hM0 Hpos hx
            go_wp2_with (at_builtin; go_must (refine @wpList_push2 Tryd.prog _ _ _ _ _ wr rfl _ _ 37 rfl w.heap.size 5 i0 (.int .u8 0) 1 Tryd.underlying37 hi0 iz0 iz1 iz2 rfl (.slice pv L.length cap) L.length (u8V L) ?q1 hown (.int .u8 (x : Int)) wr.heap.size ?q2 rfl rfl ?q3 ?q4 ?q5 ?_; (case q1 => rfl); (case q2 => rfl); (case q3 => unfold maxLen; omega); (case q4 => omega); (case q5 => omega)); intro a2 w6 ha2 hg6 hn2)
            have hb6 := hb.grown hg6 (by omega) (own2.le hown)
            go_roundw
            case rel => exact ⟨5, L ++ [x], by omega, rfl, Lib.hid (by rw [show n / 256 ^ 5 = M from HM2.out, hst.out]), by rw [List.length_append, List.length_singleton]; exact hsl2, by rw [List.length_append, u8V, List.map_append]; exact ha2, hb6⟩
            case measure => simp [intOf]
      · have hM2 : n / 281474976710656 = M := hM
        have hc : (n : Int) / 281474976710656 % 256 = ((M % 256 : Nat) : Int) := by rw [← hM2]; omega
        have hw1 : wrap64 (48 - 8) = 40 := by unfold wrap64; omega
        have HM2 := Lib.hid hM2
        clear hM hM2
        by_cases hM0 : M = 0
        · have hL0 := Hzero.out hM0
          subst hL0
          subst hM0
          go_wp2_with fail
          go_roundw
          case rel => exact ⟨6, [], by omega, rfl, Lib.hid (by rw [show n / 256 ^ 6 = 0 from HM2.out, digB_zero]), by simp, hown, hb⟩
          case measure => simp [intOf]
        · have hst := Lib.hid (Hstep.out hM0)
          have hsl : Hid (L.length + 1 ≤ 8) := Lib.hid (by have := hMl.out; rw [hst.out, List.length_append, List.length_singleton] at this; exact this)
          have hsl2 := hsl.out
          by_cases hc0 : M % 256 = 0
          · have hlp : 0 < (L.length : Int) := by have := Hpos.out hc0 hM0; omega
            rw [hc0] at hc
            have hbyte : Hid (M % 256 = 0) := Lib.hid hc0
            clear hc0 hM0 Hpos
            go_wp2_with (at_builtin; go_must (refine @wpList_push2 Tryd.prog _ _ _ _ _ wr rfl _ _ 37 rfl w.heap.size 5 i0 (.int .u8 0) 1 Tryd.underlying37 hi0 iz0 iz1 iz2 rfl (.slice pv L.length cap) L.length (u8V L) ?q1 hown (.int .u8 0) wr.heap.size ?q2 rfl rfl ?q3 ?q4 ?q5 ?_; (case q1 => rfl); (case q2 => rfl); (case q3 => unfold maxLen; omega); (case q4 => omega); (case q5 => omega)); intro a2 w6 ha2 hg6 hn2)
            have hb6 := hb.grown hg6 (by omega) (own2.le hown)
            go_roundw
            case rel => exact ⟨6, L ++ [0], by omega, rfl, Lib.hid (by rw [show n / 256 ^ 6 = M from HM2.out, hst.out, hbyte.out]), by rw [List.length_append, List.length_singleton]; exact hsl2, by rw [List.length_append, u8V, List.map_append]; exact ha2, hb6⟩
            case measure => simp [intOf]
          · generalize hx : M % 256 = x at *
            have Hx := Lib.hid hx
            have hxi : ¬ (x : Int) = 0 := by omega
            clear hc0 hM0 Hpos hx
            go_wp2_with (at_builtin; go_must (refine @wpList_push2 Tryd.prog _ _ _ _ _ wr rfl _ _ 37 rfl w.heap.size 5 i0 (.int .u8 0) 1 Tryd.underlying37 hi0 iz0 iz1 iz2 rfl (.slice pv L.length cap) L.length (u8V L) ?q1 hown (.int .u8 (x : Int)) wr.heap.size ?q2 rfl rfl ?q3 ?q4 ?q5 ?_; (case q1 => rfl); (case q2 => rfl); (case q3 => unfold maxLen; omega); (case q4 => omega); (case q5 => omega)); intro a2 w6 ha2 hg6 hn2)
            have hb6 := hb.grown hg6 (by omega) (own2.le hown)
            go_roundw
            case rel => exact ⟨6, L ++ [x], by omega, rfl, Lib.hid (by rw [show n / 256 ^ 6 = M from HM2.out, hst.out]), by rw [List.length_append, List.length_singleton]; exact hsl2, by rw [List.length_append, u8V, List.map_append]; exact ha2, hb6⟩
            case measure => simp [intOf]
      · have hM2 : n / 72057594037927936 = M := hM
        have hc : (n : Int) / 72057594037927936 % 256 = ((M % 256 : Nat) : Int) := by rw [← hM2]; omega
        have hw1 : wrap64 (56 - 8) = 48 := by unfold wrap64; omega
        have HM2 := Lib.hid hM2
        clear hM hM2
        by_cases hM0 : M = 0
        · have hL0 := Hzero.out hM0
          subst hL0
          subst hM0
          go_wp2_with fail
          go_roundw
          case rel => exact ⟨7, [], by omega, rfl, Lib.hid (by rw [show n / 256 ^ 7 = 0 from HM2.out, digB_zero]), by simp, hown, hb⟩
          case measure => simp [intOf]
        · have hst := Lib.hid (Hstep.out hM0)
          have hsl : Hid (L.length + 1 ≤ 8) := Lib.hid (by have := hMl.out; rw [hst.out, List.length_append, List.length_singleton] at this; exact this)
          have hsl2 := hsl.out
          by_cases hc0 : M % 256 = 0
          · have hlp : 0 < (L.length : Int) := by have := Hpos.out hc0 hM0; omega
            rw [hc0] at hc
            have hbyte : Hid (M % 256 = 0) := Lib.hid hc0
            clear hc0 hM0 Hpos
            go_wp2_with (at_builtin; go_must (refine @wpList_push2 Tryd.prog _ _ _ _ _ wr rfl _ _ 37 rfl w.heap.size 5 i0 (.int .u8 0) 1 Tryd.underlying37 hi0 iz0 iz1 iz2 rfl (.slice pv L.length cap) L.length (u8V L) ?q1 hown (.int .u8 0) wr.heap.size ?q2 rfl rfl ?q3 ?q4 ?q5 ?_; (case q1 => rfl); (case q2 => rfl); (case q3 => unfold maxLen; omega); (case q4 => omega); (case q5 => omega)); intro a2 w6 ha2 hg6 hn2)
            have hb6 := hb.grown hg6 (by omega) (own2.le hown)
            go_roundw
            case rel => exact ⟨7, L ++ [0], by omega, rfl, Lib.hid (by rw [show n / 256 ^ 7 = M from HM2.out, hst.out, hbyte.out]), by rw [List.length_append, List.length_singleton]; exact hsl2, by rw [List.length_append, u8V, List.map_append]; exact ha2, hb6⟩
            case measure => simp [intOf]
          · generalize hx : M % 256 = x at *
            have Hx := Lib.hid hx
            have hxi : ¬ (x : Int) = 0 := by omega
            clear hc0 hM0 Hpos hx
            go_wp2_with (at_builtin; go_must (refine @wpList_push2 Tryd.prog _ _ _ _ _ wr rfl _ _ 37 rfl w.heap.size 5 i0 (.int .u8 0) 1 Tryd.underlying37 hi0 iz0 iz1 iz2 rfl (.slice pv L.length cap) L.length (u8V L) ?q1 hown (.int .u8 (x : Int)) wr.heap.size ?q2 rfl rfl ?q3 ?q4 ?q5 ?_; (case q1 => rfl); (case q2 => rfl); (case q3 => unfold maxLen; omega); (case q4 => omega); (case q5 => omega)); intro a2 w6 ha2 hg6 hn2)
            have hb6 := hb.grown hg6 (by omega) (own2.le hown)
            go_roundw
            case rel => exact ⟨7, L ++ [x], by omega, rfl, Lib.hid (by rw [show n / 256 ^ 7 = M from HM2.out, hst.out]), by rw [List.length_append, List.length_singleton]; exact hsl2, by rw [List.length_append, u8V, List.map_append]; exact ha2, hb6⟩
            case measure => simp [intOf]
    · obtain rfl : q = 0 := by omega
      rw [show 8 * ((0 : Nat) : Int) - 8 = -8 from rfl]
      have hLn : Hid (L = digB n) := Lib.hid (by rw [hL.out]; simp)
      obtain ⟨t, ht, hcv⟩ := conv_own2 hown (by rw [hLn.out]; exact digB_lt n)
      have HT : Hid (bysN t = digB n) := Lib.hid (by rw [ht, hLn.out])
      clear ht hL
      go_wp2_with fail
      go_ret
      exact ⟨_, rfl, HT.out, hb⟩
theorem tnum_any (c n : Nat) (w : World) (hc : c < 256) (hn : n < 18446744073709551616) : Calls Tryd.prog 60 #[.int .u8 (c : Int), .int .u64 (n : Int)] w fun e w' => ∃ t, e = .returned (.string t) ∧ bysN t = tlvT c (digB n) ∧ Below w.heap.size w w' := by
  have hl := Lib.hid (digB_len 8 n hn)
  go_enter Tryd.func60, Tryd.ntmps60
  go_wp2_with (first
    | (go_at_call 73; refine (tdig_any n _ hn).mono ?_; rintro e w1 ⟨d, rfl, hd, hb1⟩; have zd : d.size ≤ 8 := (by rw [← bysN_len, hd]; exact hl.out); have Hd := Lib.hid hd; clear hd)
    | (go_at_call 36; refine (ttext_any c d _ hc (by omega)).mono ?_; rintro e w2 ⟨t, rfl, ht, hb2⟩; rw [Hd.out] at ht))
  go_ret
  exact ⟨_, rfl, ht, BW_on hb1 hb2⟩
/-- A number's body, none below 0. -/
def tlvI (c : Nat) (n : Int) : List Nat := tlvT c (digB n.toNat)
theorem tint_any (c : Nat) (n : Int) (w : World) (hc : c < 256) (hn : n ≤ 9223372036854775807) : Calls Tryd.prog 35 #[.int .u8 (c : Int), .int .i64 n] w fun e w' => ∃ t, e = .returned (.string t) ∧ bysN t = tlvI c n ∧ Below w.heap.size w w' := by
  have hm : max n 0 = (n.toNat : Int) := by omega
  have hu : (n.toNat : Int) % 18446744073709551616 = (n.toNat : Int) := by omega
  have hlt : n.toNat < 18446744073709551616 := by omega
  have HI : Hid (tlvI c n = tlvT c (digB n.toNat)) := Lib.hid rfl
  generalize n.toNat = k at *
  go_enter Tryd.func35, Tryd.ntmps35
  go_wp2_with (go_at_call 60; refine (tnum_any c k _ hc hlt).mono ?_; rintro e w1 ⟨t, rfl, ht, hb1⟩)
  go_ret
  exact ⟨_, rfl, by rw [ht, HI.out], hb1⟩
end Go.Proofs.YtbimnfmjgmfijaaDoor
namespace Go.Proofs.YtbimnfmjgmfijaaDoor
open Go.RowKit
attribute [local go_sem ↓] Go.wp_at_zero Go.wp_at_succ
attribute [local go_sem] conv_f1
set_option maxHeartbeats 4000000 in
set_option maxRecDepth 100000 in
theorem r1dig_any (n : Nat) (w : World) (hn : n < 18446744073709551616) : Calls Tryd.prog 72 #[.int .u64 (n : Int)] w fun e w' => ∃ t, e = .returned (.string t) ∧ bysN t = digB n ∧ Below w.heap.size w w' := by
  have h8 := digB_len 8 n hn
  go_enter Tryd.func72, Tryd.ntmps72
  go_wp2_with fail
  go_loopw [0, 3] (fun m s wr => ∃ (k : Nat) (T : ByteArray), m = .int .u64 (k : Int) ∧ s = .string T ∧ k < 18446744073709551616 ∧ Hid (digB n = digB k ++ bysN T) ∧ Hid (T.size + (digB k).length ≤ 8) ∧ Below w.heap.size w wr) (fun m _ _ => (intOf m).toNat)
  case atStart => exact ⟨n, ⟨#[]⟩, rfl, rfl, hn, Lib.hid (by simp [bysN]), Lib.hid (by show 0 + _ ≤ 8; omega), BW_refl w⟩
  case round =>
    obtain ⟨k, T, rfl, rfl, hk, hT, hTs, hb⟩ := hrel
    by_cases h0 : k = 0
    · subst h0
      go_wp2_with fail
      go_ret
      exact ⟨_, rfl, by rw [hT.out, digB_zero, List.nil_append], hb⟩
    · have hk0 : 0 < (k : Int) := by omega
      have hst := Lib.hid (digB_pos h0)
      have hTs2 : Hid (T.size + 1 + (digB (k / 256)).length ≤ 8) := Lib.hid (by have := hTs.out; rw [hst.out, List.length_append, List.length_singleton] at this; omega)
      have hTs3 : T.size ≤ 7 := by have := hTs2.out; omega
      have e1 : (k : Int) % 256 = ((k % 256 : Nat) : Int) := by omega
      have e2 : (k : Int) / 256 = ((k / 256 : Nat) : Int) := by omega
      have e3 : (k : Int).tdiv 256 = ((k / 256 : Nat) : Int) := by rw [Int.tdiv_eq_ediv_of_nonneg (by omega)]; omega
      have hx : k % 256 < 256 := Nat.mod_lt _ (by decide)
      have hm : k / 256 < k := by omega
      generalize k % 256 = x at *
      generalize k / 256 = m at *
      obtain ⟨T2, hT2, hadd⟩ := cat_big ⟨#[UInt8.ofNat x]⟩ T (by show 1 + T.size ≤ _; omega)
      have H2 : Hid (bysN T2 = x :: bysN T) := Lib.hid (by
        rw [hT2]
        show (UInt8.ofNat x).toNat :: bysN T = _
        rw [UInt8.toNat_ofNat_of_lt' (by show x < 256; exact hx)])
      have hz2 : Hid (T2.size = T.size + 1) := Lib.hid (by rw [← bysN_len, H2.out, List.length_cons, bysN_len])
      clear hT2 h0
      go_wp2_with fail
      go_roundw
      case rel => exact ⟨m, T2, rfl, rfl, by omega, Lib.hid (by rw [hT.out, hst.out, H2.out, List.append_assoc]; rfl), Lib.hid (by have := hTs2.out; rw [hz2.out]; omega), BW_alloc hb _⟩
      case measure => simp [intOf]; omega
set_option maxHeartbeats 4000000 in
set_option maxRecDepth 100000 in
theorem r1text_any (c : Nat) (s : ByteArray) (w : World) (hc : c < 256) (hs : s.size ≤ 1000000) :
    Calls Tryd.prog 48 #[.int .u8 (c : Int), .string s] w fun e w' => ∃ t, e = .returned (.string t) ∧ bysN t = tlvT c (bysN s) ∧ Below w.heap.size w w' := by
  have hmin : (s.size : Int) ≤ 16777215 := by omega
  have htl : Hid (tlvT c (bysN s) = [c, s.size / 65536 % 256, s.size / 256 % 256, s.size % 256] ++ bysN s) := Lib.hid (by unfold tlvT hd4; rw [bysN_len])
  have hlt : ∀ x ∈ [c, s.size / 65536 % 256, s.size / 256 % 256, s.size % 256], x < 256 := by
    intro x hx
    simp only [List.mem_cons, List.not_mem_nil, or_false] at hx
    omega
  have Hlt := Lib.hid hlt
  have e1 : (s.size : Int) / 65536 % 256 = ((s.size / 65536 % 256 : Nat) : Int) := by omega
  have e6 : (s.size : Int) / 65536 = ((s.size / 65536 % 256 : Nat) : Int) := by omega
  have e2 : (s.size : Int) / 256 % 256 = ((s.size / 256 % 256 : Nat) : Int) := by omega
  have e3 : (s.size : Int) % 256 = ((s.size % 256 : Nat) : Int) := by omega
  have e4 : (s.size : Int).tdiv 65536 % 256 = ((s.size / 65536 % 256 : Nat) : Int) := by rw [Int.tdiv_eq_ediv_of_nonneg (by omega)]; exact e1
  have e5 : (s.size : Int).tdiv 256 % 256 = ((s.size / 256 % 256 : Nat) : Int) := by rw [Int.tdiv_eq_ediv_of_nonneg (by omega)]; exact e2
  generalize s.size / 65536 % 256 = x1 at *
  generalize s.size / 256 % 256 = x2 at *
  generalize s.size % 256 = x3 at *
  have k4 := blk1 w 5 #[.int .u8 (c : Int), .int .u8 (x1 : Int), .int .u8 (x2 : Int), .int .u8 (x3 : Int)]
  have hcv := conv_row _ w.heap.size 4 [c, x1, x2, x3] Hlt.out (fun j x hx => by
    rw [k4.cell j]
    match j with
    | 0 => cases hx; rfl
    | 1 => cases hx; rfl
    | 2 => cases hx; rfl
    | 3 => cases hx; rfl
    | j + 4 => cases hx)
  obtain ⟨h4, hh4⟩ : ∃ h4 : ByteArray, (⟨([c, x1, x2, x3].map UInt8.ofNat).toArray⟩ : ByteArray) = h4 := ⟨_, rfl⟩
  have hbh : bysN h4 = [c, x1, x2, x3] := by rw [← hh4]; exact u8L_bys Hlt.out
  have hz4 : h4.size = 4 := by rw [← bysN_len, hbh]; rfl
  rw [hh4] at hcv
  have hcv' : (convert 37 9 (.slice (some ⟨w.heap.size, 0, none⟩) 4 4)).run Tryd.prog _ = .ok (.string h4) _ := hcv
  obtain ⟨t, ht, hadd⟩ := cat_big h4 s (by omega)
  have HT : Hid (bysN t = tlvT c (bysN s)) := Lib.hid (by rw [ht, hbh, htl.out])
  clear hcv hh4 hbh ht k4 hlt
  go_enter Tryd.func48, Tryd.ntmps48
  go_wp2
  go_ret
  exact ⟨_, rfl, HT.out, BW_alloc (BW_refl w) _⟩
theorem r1num_any (c n : Nat) (w : World) (hc : c < 256) (hn : n < 18446744073709551616) : Calls Tryd.prog 66 #[.int .u8 (c : Int), .int .u64 (n : Int)] w fun e w' => ∃ t, e = .returned (.string t) ∧ bysN t = tlvT c (digB n) ∧ Below w.heap.size w w' := by
  have hl := Lib.hid (digB_len 8 n hn)
  go_enter Tryd.func66, Tryd.ntmps66
  go_wp2_with (first
    | (go_at_call 72; refine (r1dig_any n _ hn).mono ?_; rintro e w1 ⟨d, rfl, hd, hb1⟩; have zd : d.size ≤ 8 := (by rw [← bysN_len, hd]; exact hl.out); have Hd := Lib.hid hd; clear hd)
    | (go_at_call 48; refine (r1text_any c d _ hc (by omega)).mono ?_; rintro e w2 ⟨t, rfl, ht, hb2⟩; rw [Hd.out] at ht))
  go_ret
  exact ⟨_, rfl, ht, BW_on hb1 hb2⟩
theorem r1int_any (c : Nat) (n : Int) (w : World) (hc : c < 256) (hn : n ≤ 9223372036854775807) : Calls Tryd.prog 47 #[.int .u8 (c : Int), .int .i64 n] w fun e w' => ∃ t, e = .returned (.string t) ∧ bysN t = tlvI c n ∧ Below w.heap.size w w' := by
  have HI : Hid (tlvI c n = tlvT c (digB n.toNat)) := Lib.hid rfl
  by_cases h0 : n < 0
  · rw [show n.toNat = 0 by omega] at HI
    go_enter Tryd.func47, Tryd.ntmps47
    go_wp2_with (go_at_call 66; refine (r1num_any c 0 _ hc (by decide)).mono ?_; rintro e w1 ⟨t, rfl, ht, hb1⟩)
    go_ret
    exact ⟨_, rfl, by rw [ht, HI.out], hb1⟩
  · obtain ⟨k, rfl⟩ : ∃ k : Nat, n = (k : Int) := ⟨n.toNat, by omega⟩
    rw [Int.toNat_natCast] at HI
    have hu : (k : Int) % 18446744073709551616 = (k : Int) := by omega
    have hlt : k < 18446744073709551616 := by omega
    clear h0
    go_enter Tryd.func47, Tryd.ntmps47
    go_wp2_with (go_at_call 66; refine (r1num_any c k _ hc hlt).mono ?_; rintro e w1 ⟨t, rfl, ht, hb1⟩)
    go_ret
    exact ⟨_, rfl, by rw [ht, HI.out], hb1⟩
end Go.Proofs.YtbimnfmjgmfijaaDoor
namespace Go.Proofs.YtbimnfmjgmfijaaDoor
open Go.RowKit
attribute [local go_sem ↓] Go.wp_at_zero Go.wp_at_succ
/-- The worlds that differ in one box, and in what is new. -/
abbrev Kept (b : Nat) (w w' : World) : Prop := w.grownBy w' (some b)
theorem kept_refl (b : Nat) (w : World) : Kept b w w := ⟨rfl, rfl, rfl, Nat.le_refl _, fun _ _ _ => rfl⟩
theorem kept_trans {b : Nat} {a w w' : World} (h : Kept b a w) (h2 : Kept b w w') : Kept b a w' :=
  ⟨h2.os.trans h.os, h2.tape.trans h.tape, h2.output.trans h.output, Nat.le_trans h.size h2.size, fun k hk hne => (h2.block k (Nat.lt_of_lt_of_le hk h.size) hne).trans (h.block k hk hne)⟩
theorem kept_of {b : Nat} {w w' : World} (h : Below w.heap.size w w') : Kept b w w' := ⟨h.os, h.tape, h.output, h.size, fun k hk _ => h.block k hk⟩
theorem kept_below {b : Nat} {a w w' : World} (h : Kept b a w) (h2 : Below w.heap.size w w') : Kept b a w' := kept_trans h (kept_of h2)
theorem kept_set {b : Nat} {a w : World} (h : Kept b a w) (i : Nat) (v : Value) : Kept b a (w.setCell ⟨b, i, none⟩ v) :=
  grown_set h i v
theorem Blk.keptK {w w' : World} {g b : Nat} {t : TypeId} {cs : Array Value} (h : Blk w g t cs) (hk : Kept b w w') (hne : g ≠ b) : Blk w' g t cs :=
  (hk.block g h.lt (fun e => hne (Option.some.inj e))).trans h
theorem below_kept {B b : Nat} {a w w' : World} (h : Below B a w) (hB : B ≤ b) (hw : B ≤ w.heap.size) (hk : Kept b w w') : Below B a w' :=
  ⟨hk.os.trans h.os, hk.tape.trans h.tape, hk.output.trans h.output, Nat.le_trans h.size hk.size, fun k hlt => (hk.block k (Nat.lt_of_lt_of_le hlt hw) (fun e => by cases e; omega)).trans (h.block k hlt)⟩
def bodyN (l : List Nat) : Nat := l.getD 1 0 * 65536 + l.getD 2 0 * 256 + l.getD 3 0
/-- A text read: it, what is left, whether it went wrong. -/
def rText (c most : Nat) (l : List Nat) (bad : Bool) : List Nat × List Nat × Bool :=
  if bad = true ∨ l.length < 4 ∨ l.getD 0 0 ≠ c then ([], l, true)
  else if most < bodyN l ∨ l.length - 4 < bodyN l then ([], l, true)
  else ((l.drop 4).take (bodyN l), l.drop (4 + bodyN l), false)
theorem tgood_any (b : Nat) (T : ByteArray) (bad : Bool) (w : World) (hR : Blk w b 71 #[.string T, .bool bad]) : Calls Tryd.prog 57 #[.pointer (some ⟨b, 0, none⟩)] w fun e w' => e = .returned (.bool (!bad)) ∧ w = w' := by
  have c1 := hR.cell 1
  go_enter Tryd.func57, Tryd.ntmps57
  go_wp2
  go_ret
  exact ⟨rfl, rfl⟩
theorem tfails_any (b : Nat) (T : ByteArray) (bad : Bool) (w : World) (hR : Blk w b 71 #[.string T, .bool bad]) : Calls Tryd.prog 55 #[.pointer (some ⟨b, 0, none⟩)] w fun e w' => (∃ v, e = .returned v) ∧ Blk w' b 71 #[.string T, .bool true] ∧ Kept b w w' := by
  have c1 := hR.cell 1
  have f1 := hR.free 1
  go_enter Tryd.func55, Tryd.ntmps55
  go_wp2
  refine bodyPost_end (v := .tuple #[]) (by kernel_rfl) rfl ⟨⟨_, rfl⟩, by simpa using hR.set_ 1 (.bool true), kept_set (kept_refl _ _) _ _⟩
theorem tnext_no (b : Nat) (T : ByteArray) (bad : Bool) (w : World) (hR : Blk w b 71 #[.string T, .bool bad]) (h : bad = true ∨ T.size = 0) : Calls Tryd.prog 56 #[.pointer (some ⟨b, 0, none⟩)] w fun e w' => e = .returned (.tuple #[.int .u8 0, .bool false]) ∧ w = w' := by
  have c0 := hR.cell 0
  cases bad
  · obtain rfl : T = ⟨#[]⟩ := bysN_inj (List.eq_nil_of_length_eq_zero (by rw [bysN_len]; rcases h with h | h; cases h; exact h))
    go_enter Tryd.func56, Tryd.ntmps56
    go_wp2_with (go_at_call 57; refine (tgood_any b ⟨#[]⟩ false _ hR).mono ?_; rintro e w' ⟨rfl, rfl⟩)
    go_ret2
    exact ⟨rfl, rfl⟩
  · go_enter Tryd.func56, Tryd.ntmps56
    go_wp2_with (go_at_call 57; refine (tgood_any b T true _ hR).mono ?_; rintro e w' ⟨rfl, rfl⟩)
    go_ret2
    exact ⟨rfl, rfl⟩
theorem tnext_yes (b : Nat) (T : ByteArray) (w : World) (hR : Blk w b 71 #[.string T, .bool false]) (h : 0 < T.size) : Calls Tryd.prog 56 #[.pointer (some ⟨b, 0, none⟩)] w fun e w' => e = .returned (.tuple #[.int .u8 (((bysN T).getD 0 0 : Nat) : Int), .bool true]) ∧ w = w' := by
  have c0 := hR.cell 0
  have hg := str_get T 0 h
  have hie : T.toList.isEmpty = false := by rw [toList_isEmpty]; exact decide_eq_false (by omega)
  have hp : (0 : Int) < (T.size : Int) := by omega
  have h1 : ¬ T = ⟨#[]⟩ := fun e => by subst e; exact absurd h (by decide)
  generalize (bysN T).getD 0 0 = x at *
  go_enter Tryd.func56, Tryd.ntmps56
  go_wp2_with (go_at_call 57; refine (tgood_any b T false _ hR).mono ?_; rintro e w' ⟨rfl, rfl⟩)
  go_ret2
  exact ⟨rfl, rfl⟩
end Go.Proofs.YtbimnfmjgmfijaaDoor
namespace Go.Proofs.YtbimnfmjgmfijaaDoor
open Go.RowKit
attribute [local go_sem ↓] Go.wp_at_zero Go.wp_at_succ
theorem cv_bytes (w : World) (s : ByteArray) : ∃ wb c, (convert 9 37 (.string s)).run Tryd.prog w = .ok (.slice (some ⟨w.heap.size, 0, none⟩) s.size c) wb ∧ Below w.heap.size w wb ∧ w.heap.size < wb.heap.size ∧
    ∀ (j x : Nat), (bysN s)[j]? = some x → wb.cell? ⟨w.heap.size, j, none⟩ = some (.int .u8 (x : Int)) :=
  ⟨_, _, Lib.run_convert_string_bytes w 9 37 5 s Tryd.underlying9 Tryd.underlying37 Tryd.underlying5, ⟨rfl, rfl, rfl, by rw [Lib.bytesWorld_size]; omega, fun k hk => Lib.bytesWorld_at_old _ _ _ _ hk⟩, by rw [Lib.bytesWorld_size]; omega, fun j x hx => by
    have hj : j < s.size := by rw [← bysN_len]; exact (List.getElem?_eq_some_iff.1 hx).1
    have h := Lib.bytesWorld_cell w 5 s j hj
    rw [h]
    have : (s.data.toList.getD j 0).toNat = x := by
      unfold bysN at hx
      rw [List.getElem?_map] at hx
      rw [List.getD_eq_getElem?_getD]
      cases he : s.data.toList[j]? with
      | none => rw [he] at hx; cases hx
      | some u => rw [he] at hx; exact Option.some.inj hx
    rw [this]⟩
theorem i64_or (a c : Nat) (ha : a < 65536) (hc : c < 256) : bits .or .i64 ((a : Int) * 256) (c : Int) = ((a * 256 + c : Nat) : Int) := by
  have e : bits .or .i64 ((a : Int) * 256) (c : Int) = IntKind.i64.wrap (((BitVec.ofInt 64 ((a : Int) * 256) ||| BitVec.ofInt 64 (c : Int)).toNat : Nat) : Int) := rfl
  have e1 : (BitVec.ofInt 64 ((a : Int) * 256)).toNat = a * 256 := by rw [BitVec.toNat_ofInt]; omega
  have e2 : (BitVec.ofInt 64 (c : Int)).toNat = c := by rw [BitVec.toNat_ofInt]; omega
  have h := or_apart c a 8 (by omega)
  rw [Nat.or_comm, show (2 : Nat) ^ 8 = 256 by rfl] at h
  rw [e, BitVec.toNat_or, e1, e2, h, IntKind.wrap_i64]
  omega
theorem sub3 : ∀ l : List Nat, 4 ≤ l.length → (l.take 4).drop 1 = [l.getD 1 0, l.getD 2 0, l.getD 3 0]
  | [], h => by simp at h
  | [_], h => by simp at h
  | [_, _], h => by simp at h
  | [_, _, _], h => by simp at h
  | _ :: _ :: _ :: _ :: _, _ => rfl
theorem rText_fail {c most : Nat} {l : List Nat} {bad : Bool} (h : bad = true ∨ l.length < 4 ∨ l.getD 0 0 ≠ c) : rText c most l bad = ([], l, true) := if_pos h
theorem rText_long {c most : Nat} {l : List Nat} {bad : Bool} (h : ¬ (bad = true ∨ l.length < 4 ∨ l.getD 0 0 ≠ c)) (h2 : most < bodyN l ∨ l.length - 4 < bodyN l) : rText c most l bad = ([], l, true) := by unfold rText; rw [if_neg h, if_pos h2]
theorem rText_ok {c most : Nat} {l : List Nat} {bad : Bool} (h : ¬ (bad = true ∨ l.length < 4 ∨ l.getD 0 0 ≠ c)) (h2 : ¬ (most < bodyN l ∨ l.length - 4 < bodyN l)) : rText c most l bad = ((l.drop 4).take (bodyN l), l.drop (4 + bodyN l), false) := by unfold rText; rw [if_neg h, if_neg h2]
theorem bysN_getD (T : ByteArray) (k : Nat) : (bysN T).getD k 0 < 256 := by
  rw [List.getD_eq_getElem?_getD]
  cases h : (bysN T)[k]? with
  | none => decide
  | some x => exact bysN_lt T x (List.mem_of_getElem? h)
/-- What a reader's text answers, and leaves. -/
def ReadsT (tt b : Nat) (w : World) (T : ByteArray) (r : List Nat × List Nat × Bool) (e : Ending) (w' : World) : Prop :=
  ∃ t T' bad', e = .returned (.string t) ∧ (bysN t, bysN T', bad') = r ∧ Blk w' b tt #[.string T', .bool bad'] ∧ T'.size ≤ T.size ∧ Kept b w w'
theorem rdt {tt b : Nat} {w w' : World} {T : ByteArray} {r : List Nat × List Nat × Bool} {e : Ending} (t T' : ByteArray) (bad' : Bool) (h1 : e = .returned (.string t)) (h2 : (bysN t, bysN T', bad') = r) (h3 : Blk w' b tt #[.string T', .bool bad']) (h4 : T'.size ≤ T.size) (h5 : Kept b w w') :
    ReadsT tt b w T r e w' := ⟨t, T', bad', h1, h2, h3, h4, h5⟩
set_option maxHeartbeats 4000000 in
set_option maxRecDepth 100000 in
theorem trdtext_any (c most b : Nat) (T : ByteArray) (bad : Bool) (w : World) (hR : Blk w b 71 #[.string T, .bool bad]) (hT : T.size ≤ 1000000) :
    Calls Tryd.prog 28 #[.pointer (some ⟨b, 0, none⟩), .int .u8 (c : Int), .int .i64 (most : Int)] w fun e w' => ReadsT 71 b w T (rText c most (bysN T) bad) e w' := by
  have hlen := bysN_len T
  have c0 := hR.cell 0
  by_cases hA : bad = true ∨ T.size = 0
  · have hf : Hid (rText c most (bysN T) bad = ([], bysN T, true)) := Lib.hid (rText_fail (by rcases hA with h | h; exact .inl h; exact .inr (.inl (by omega))))
    go_enter Tryd.func28, Tryd.ntmps28
    go_wp2_with (first
      | (go_at_call 56; refine (tnext_no b T bad _ hR hA).mono ?_; rintro e w' ⟨rfl, rfl⟩)
      | (go_at_call 55; refine (tfails_any b T bad _ hR).mono ?_; rintro e w2 ⟨⟨v, rfl⟩, hR2, hk2⟩))
    go_ret
    exact rdt _ T true rfl (by rw [hf.out]; rfl) hR2 (Nat.le_refl _) hk2
  · have hb : bad = false := by cases bad; rfl; exact absurd (.inl rfl) hA
    have h0 : 0 < T.size := by rcases Nat.eq_zero_or_pos T.size with h | h; exact absurd (.inr h) hA; exact h
    subst hb
    clear hA
    by_cases hx : (bysN T).getD 0 0 = c
    · by_cases h4 : T.size < 4
      · have hf : Hid (rText c most (bysN T) false = ([], bysN T, true)) := Lib.hid (rText_fail (.inr (.inl (by omega))))
        have h4i : (T.size : Int) < 4 := by omega
        go_enter Tryd.func28, Tryd.ntmps28
        go_wp2_with (first
          | (go_at_call 56; refine (tnext_yes b T _ hR h0).mono ?_; rintro e w' ⟨rfl, rfl⟩; rw [hx])
          | (go_at_call 55; refine (tfails_any b T false _ hR).mono ?_; rintro e w2 ⟨⟨v, rfl⟩, hR2, hk2⟩))
        go_ret
        exact rdt _ T true rfl (by rw [hf.out]; rfl) hR2 (Nat.le_refl _) hk2
      · have hn0 : ¬ (false = true ∨ (bysN T).length < 4 ∨ (bysN T).getD 0 0 ≠ c) := by
          rintro (h | h | h)
          · cases h
          · omega
          · exact h hx
        have Hlong := Lib.hid (rText_long (most := most) hn0)
        have Hok := Lib.hid (rText_ok (most := most) hn0)
        have h4i : ¬ (T.size : Int) < 4 := by omega
        have h4j : 4 ≤ (T.size : Int) := by omega
        have hsub : Hid (bysN (T.extract 1 4) = [(bysN T).getD 1 0, (bysN T).getD 2 0, (bysN T).getD 3 0]) := Lib.hid (by
          rw [bysN_extract]; exact sub3 _ (by omega))
        have hz3 : (T.extract 1 4).size = 3 := by rw [← bysN_len, hsub.out]; rfl
        have hbN : Hid (bodyN (bysN T) = (bysN T).getD 1 0 * 65536 + (bysN T).getD 2 0 * 256 + (bysN T).getD 3 0) := Lib.hid rfl
        have l1 := bysN_getD T 1
        have l2 := bysN_getD T 2
        have l3 := bysN_getD T 3
        obtain ⟨wb, cp, hcv, hbb, hgb, hcell⟩ := cv_bytes w (T.extract 1 4)
        rw [hz3] at hcv
        generalize (bysN T).getD 1 0 = x1 at *
        generalize (bysN T).getD 2 0 = x2 at *
        generalize (bysN T).getD 3 0 = x3 at *
        rw [hsub.out] at hcell
        have y0 := hcell 0 x1 rfl
        have y1 := hcell 1 x2 rfl
        have y2 := hcell 2 x3 rfl
        have Hx := Lib.hid hx
        have hRb := hR.on hbb
        have cb := hRb.cell 0
        have fb := hRb.free 0
        have hkb : Kept b w wb := kept_of hbb
        clear hcell hz3 hn0
        go_enter Tryd.func28, Tryd.ntmps28
        go_wp2_with (go_at_call 56; refine (tnext_yes b T _ hR h0).mono ?_; rintro e w' ⟨rfl, rfl⟩; rw [Hx.out])
        clear c0 hcv
        go_loopw [9, 11, 42] (fun n _ i wr => ∃ k : Nat, k ≤ 3 ∧ i = .int .i64 (k : Int) ∧ n = .int .i64 ((if k = 0 then 0 else if k = 1 then x1 else if k = 2 then x1 * 256 + x2 else x1 * 65536 + x2 * 256 + x3 : Nat) : Int) ∧ wb = wr) (fun _ _ i _ => 3 - (intOf i).toNat)
        case atStart => exact ⟨0, by omega, rfl, rfl, rfl⟩
        case round =>
          obtain ⟨k, hk, rfl, rfl, rfl⟩ := hrel
          have hk4 : k = 0 ∨ k = 1 ∨ k = 2 ∨ k = 3 := by omega
          rcases hk4 with rfl | rfl | rfl | rfl
          · have o1 : bits .or .i64 0 (x1 : Int) = (x1 : Int) := by have := i64_or 0 x1 (by decide) l1; simpa using this
            go_wp2_with fail
            go_roundw
            case rel => exact ⟨1, by omega, rfl, rfl, by trivial⟩
            case measure => simp [intOf]
          · have o1 := i64_or x1 x2 (by omega) l2
            have o2 : wrap64 ((x1 : Int) * 256) = (x1 : Int) * 256 := by unfold wrap64; omega
            rw [if_neg (by decide), if_pos rfl]
            go_wp2_with fail
            go_roundw
            case rel => exact ⟨2, by omega, rfl, rfl, by trivial⟩
            case measure => simp [intOf]
          · have o1 := i64_or (x1 * 256 + x2) x3 (by omega) l3
            have o2 : wrap64 (((x1 * 256 + x2 : Nat) : Int) * 256) = ((x1 * 256 + x2 : Nat) : Int) * 256 := by unfold wrap64; omega
            have hy : Hid ((x1 * 256 + x2) * 256 + x3 = x1 * 65536 + x2 * 256 + x3) := Lib.hid (by omega)
            rw [if_neg (by decide), if_neg (by decide), if_pos rfl]
            generalize x1 * 256 + x2 = y at *
            go_wp2_with fail
            go_roundw
            case rel => exact ⟨3, by omega, rfl, by rw [← hy.out]; rfl, by trivial⟩
            case measure => simp [intOf]
          · rw [if_neg (by decide), if_neg (by decide), if_neg (by decide)]
            have hN : x1 * 65536 + x2 * 256 + x3 < 16777216 := by omega
            clear y0 y1 y2 l1 l2 l3 hsub
            generalize x1 * 65536 + x2 * 256 + x3 = n at *
            have w1 : wrap64 ((T.size : Int) - 4) = (T.size : Int) - 4 := by unfold wrap64; omega
            have w2 : wrap64 (4 + (n : Int)) = 4 + (n : Int) := by unfold wrap64; omega
            by_cases hmo : most < n
            · have d1 : (most : Int) < (n : Int) := by omega
              have hf := Lib.hid (Hlong.out (.inl (by rw [hbN.out]; exact hmo)))
              go_wp2_with (go_at_call 55; refine (tfails_any b T false _ hRb).mono ?_; rintro e w2 ⟨⟨v, rfl⟩, hR2, hk2⟩)
              go_ret
              exact rdt _ T true rfl (by rw [hf.out]; rfl) hR2 (Nat.le_refl _) (kept_trans hkb hk2)
            · have d1 : ¬ (most : Int) < (n : Int) := by omega
              by_cases hle : T.size - 4 < n
              · have d2 : (T.size : Int) - 4 < (n : Int) := by omega
                have hf := Lib.hid (Hlong.out (.inr (by rw [hbN.out, hlen]; exact hle)))
                go_wp2_with (go_at_call 55; refine (tfails_any b T false _ hRb).mono ?_; rintro e w2 ⟨⟨v, rfl⟩, hR2, hk2⟩)
                go_ret
                exact rdt _ T true rfl (by rw [hf.out]; rfl) hR2 (Nat.le_refl _) (kept_trans hkb hk2)
              · have d2 : ¬ (T.size : Int) - 4 < (n : Int) := by omega
                have d3 : 4 + (n : Int) ≤ (T.size : Int) := by omega
                have d4 : (4 : Int) ≤ 4 + (n : Int) := by omega
                have hf := Lib.hid (Hok.out (fun h => by rw [hbN.out, hlen] at h; omega))
                have hbN2 := hbN.out
                rw [hbN2] at hf
                have r1 : Hid (bysN (T.extract 4 (4 + n)) = ((bysN T).drop 4).take n) := Lib.hid (by rw [bysN_extract, List.drop_take, Nat.add_sub_cancel_left])
                have r2 : Hid (bysN (T.extract (4 + n) T.size) = (bysN T).drop (4 + n)) := Lib.hid (by rw [bysN_extract, List.take_of_length_le (by omega)])
                have r3 : Hid ((T.extract (4 + n) T.size).size ≤ T.size) := Lib.hid (by rw [ByteArray.size_extract]; omega)
                clear hbN hbN2 hmo hle
                go_wp2_with fail
                go_ret
                exact rdt _ (T.extract (4 + n) T.size) false rfl (by rw [hf.out, r1.out, r2.out]) (by simpa using hRb.set_ 0 (.string (T.extract (4 + n) T.size))) r3.out (kept_set hkb _ _)
    · have hf : Hid (rText c most (bysN T) false = ([], bysN T, true)) := Lib.hid (rText_fail (.inr (.inr hx)))
      have hxi : ¬ (((bysN T).getD 0 0 : Nat) : Int) = (c : Int) := by omega
      have hny := Lib.hid (tnext_yes b T w hR h0)
      generalize (bysN T).getD 0 0 = x at *
      go_enter Tryd.func28, Tryd.ntmps28
      go_wp2_with (first
        | (go_at_call 56; refine hny.out.mono ?_; rintro e w' ⟨rfl, rfl⟩)
        | (go_at_call 55; refine (tfails_any b T false _ hR).mono ?_; rintro e w2 ⟨⟨v, rfl⟩, hR2, hk2⟩))
      go_ret
      exact rdt _ T true rfl (by rw [hf.out]; rfl) hR2 (Nat.le_refl _) hk2
end Go.Proofs.YtbimnfmjgmfijaaDoor

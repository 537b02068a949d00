/- Contracts of layer 12's document and law: joins, hops, base, what comes off; short, word, awake. -/
import Derived.Test.YtkmdjnjpmhbhmaaDoorTd
namespace Go.Proofs.YtkmdjnjpmhbhmaaDoor
open Go.RowKit
attribute [local go_sem ↓] Go.wp_at_zero Go.wp_at_succ
theorem short12_any (s : ByteArray) (n : Nat) (w : World) : Calls Tryd.prog 26 #[.string s, .int .i64 (n : Int)] w fun e w' => e = .returned (.string (shN s n)) ∧ w = w' := by
  by_cases h : n < s.size
  · have e : shN s n = s.extract 0 n := if_pos h
    have h1 : (n : Int) < (s.size : Int) := by omega
    have h2 : (n : Int) ≤ (s.size : Int) := by omega
    rw [e]
    clear h e
    go_enter Tryd.func26, Tryd.ntmps26
    go_wp2_with fail
    go_ret
    exact ⟨by first | rfl | simp, rfl⟩
  · have e : shN s n = s := if_neg h
    have h1 : ¬ (n : Int) < (s.size : Int) := by omega
    rw [e]
    clear h e
    go_enter Tryd.func26, Tryd.ntmps26
    go_wp2_with fail
    go_ret
    exact ⟨rfl, rfl⟩
theorem r12hops_any (s : ByteArray) (w : World) (hs : s.size ≤ 1000000) : Calls Tryd.prog 48 #[.string s] w fun e w' => e = .returned (.int .i64 ((pHops (bysN s) : Nat) : Int)) ∧ Below w.heap.size w w' := by
  go_enter Tryd.func48, Tryd.ntmps48
  go_wp2_with (go_at_call 47; refine (r12check_any s _ hs).mono ?_)
  rintro e w1 ⟨rfl, hb⟩
  cases hok : okDen (bysN s)
  · go_wp2
    go_ret
    exact ⟨by unfold pHops; rw [hok]; rfl, hb⟩
  · go_wp2_with (go_at_call 45; refine (r12parts_any s _ hs).mono ?_)
    rintro e w2 ⟨v, Ls, rfl, ⟨p, cap, rfl, _⟩, hp, _, hn, hb2⟩
    have h1 : 1 ≤ Ls.length := by rw [← List.length_map (f := bysN), hp]; unfold parts; rw [pcut_len]; omega
    have hw : wrap64 ((Ls.length : Int) - 1) = (Ls.length : Int) - 1 := by unfold wrap64; omega
    have hh : Hid ((pHops (bysN s) : Int) = (Ls.length : Int) - 1) := Lib.hid (by unfold pHops; rw [hok, if_pos rfl, ← hp, List.length_map]; omega)
    clear hp
    go_wp2
    go_ret
    exact ⟨by rw [hh.out]; rfl, BW_on hb hb2⟩
theorem r12base_any (s : ByteArray) (w : World) (hs : s.size ≤ 1000000) : Calls Tryd.prog 49 #[.string s] w fun e w' => ∃ t, e = .returned (.string t) ∧ bysN t = pBase (bysN s) ∧ Below w.heap.size w w' := by
  go_enter Tryd.func49, Tryd.ntmps49
  go_wp2_with (go_at_call 47; refine (r12check_any s _ hs).mono ?_)
  rintro e w1 ⟨rfl, hb⟩
  cases hok : okDen (bysN s)
  · go_wp2
    go_ret
    exact ⟨_, rfl, by unfold pBase; rw [hok]; rfl, hb⟩
  · go_wp2_with (go_at_call 45; refine (r12parts_any s _ hs).mono ?_)
    rintro e w2 ⟨v, Ls, rfl, ⟨p, cap, rfl, hf⟩, hp, _, hn, hb2⟩
    have h1 : 1 ≤ Ls.length := by rw [← List.length_map (f := bysN), hp]; unfold parts; rw [pcut_len]; omega
    obtain ⟨g, off, rfl, hc⟩ := hf (by omega)
    have hw : wrap64 ((Ls.length : Int) - 1) = (Ls.length : Int) - 1 := by unfold wrap64; omega
    have h2 : (Ls.length : Int) - 1 < (Ls.length : Int) := by omega
    have hcell := hc (Ls.length - 1) (by omega)
    have hh : Hid (bysN Ls[Ls.length - 1] = pBase (bysN s)) := Lib.hid (by
      unfold pBase pLast; rw [hok, if_pos rfl, ← hp, List.getLast?_eq_getElem?, List.length_map, List.getElem?_map, List.getElem?_eq_getElem (by omega)]; rfl)
    clear hp hc hf
    generalize Ls[Ls.length - 1] = x at *
    go_wp2
    go_ret
    exact ⟨_, rfl, hh.out, BW_on hb hb2⟩
theorem take_isPrefix (p l : List Nat) : decide (l.take p.length = p) = p.isPrefixOf l := by
  by_cases h : p.isPrefixOf l = true
  · rw [h]
    exact decide_eq_true (List.prefix_iff_eq_take.1 (List.isPrefixOf_iff_prefix.1 h)).symm
  · rw [Bool.not_eq_true] at h
    rw [h]
    refine decide_eq_false fun h2 => ?_
    have : p.isPrefixOf l = true := List.isPrefixOf_iff_prefix.2 (List.prefix_iff_eq_take.2 h2.symm)
    rw [h] at this
    cases this
theorem r12returns_any (c d : ByteArray) (w : World) (hc : c.size ≤ 1000000) (hd : d.size ≤ 1000000) : Calls Tryd.prog 28 #[.string c, .string d] w fun e w' =>
    ∃ t, e = .returned (.tuple #[.string t, .bool (okRet (bysN c) (bysN d))]) ∧ bysN t = pRet (bysN c) (bysN d) ∧ Below w.heap.size w w' := by
  obtain ⟨t1, h1, a1⟩ := cat_big c ⟨#[47]⟩ (by show c.size + 1 ≤ _; omega)
  have h1' : bysN t1 = bysN c ++ [47] := h1
  have hcl := bysN_len c
  have hdl := bysN_len d
  have ht1 : t1.size = c.size + 1 := by rw [← bysN_len, h1', List.length_append, hcl]; rfl
  have hb1 := toList_beq (d.extract 0 t1.size) t1
  rw [bysN_extract, List.drop_zero, ← bysN_len t1, take_isPrefix, h1', List.length_append, hcl] at hb1
  have hb1' : ((d.extract 0 (c.size + 1)).toList == t1.toList) = (bysN c ++ [47]).isPrefixOf (bysN d) := hb1
  obtain ⟨pv, hpp⟩ : ∃ pv, (bysN c ++ [47]).isPrefixOf (bysN d) = pv := ⟨_, rfl⟩
  rw [hpp] at hb1'
  have Hb := Lib.hid hb1'
  have Hpp := Lib.hid hpp
  clear h1 h1' hb1 hb1' hpp
  cases pv
  · have hf : Hid (okRet (bysN c) (bysN d) = false) := Lib.hid (by unfold okRet; rw [Hpp.out]; rfl)
    by_cases hsz : d.size < c.size + 1
    · have h3 : (d.size : Int) < (c.size : Int) + 1 := by omega
      go_enter Tryd.func28, Tryd.ntmps28
      go_wp2
      go_ret2
      exact ⟨_, by rw [hf.out]; rfl, by unfold pRet; rw [hf.out]; rfl, BW_refl _⟩
    · have h3 : ¬ (d.size : Int) < (c.size : Int) + 1 := by omega
      have h4 : (c.size : Int) + 1 ≤ (d.size : Int) := by omega
      have hb2 := Hb.out
      go_enter Tryd.func28, Tryd.ntmps28
      go_wp2
      go_ret2
      exact ⟨_, by rw [hf.out]; rfl, by unfold pRet; rw [hf.out]; rfl, BW_refl _⟩
  · have hle : c.size + 1 ≤ d.size := by
      have h9 : (bysN c ++ [47]) <+: bysN d := List.isPrefixOf_iff_prefix.1 Hpp.out
      have h10 := h9.length_le
      rw [List.length_append, hcl, hdl] at h10
      simpa using h10
    have h3 : ¬ (d.size : Int) < (c.size : Int) + 1 := by omega
    have h4 : (c.size : Int) + 1 ≤ (d.size : Int) := by omega
    have hb2 := Hb.out
    have hrb : bysN (d.extract (c.size + 1) d.size) = (bysN d).drop (c.size + 1) := by rw [bysN_extract, List.take_of_length_le (by omega)]
    have hrs : (d.extract (c.size + 1) d.size).size ≤ d.size := by rw [ByteArray.size_extract]; omega
    have hf : Hid (okRet (bysN c) (bysN d) = okDen (bysN (d.extract (c.size + 1) d.size))) := Lib.hid (by unfold okRet; rw [Hpp.out, hrb, hcl]; rfl)
    have Hbr := Lib.hid hrb
    have Hcl := Lib.hid hcl
    clear hrb hcl
    go_enter Tryd.func28, Tryd.ntmps28
    go_wp2_with (go_at_call 47; refine (r12check_any (d.extract (c.size + 1) d.size) _ (by omega)).mono ?_)
    rintro e w1 rfl hb
    cases hok : okDen (bysN (d.extract (c.size + 1) d.size))
    · go_wp2
      go_ret2
      exact ⟨_, by rw [hf.out, hok]; rfl, by unfold pRet; rw [hf.out, hok]; rfl, hb⟩
    · go_wp2
      go_ret2
      exact ⟨_, by rw [hf.out, hok]; rfl, by unfold pRet; rw [hf.out, hok, if_pos rfl, Hcl.out]; exact Hbr.out, hb⟩
theorem bits_low (n : Int) (k : Nat) (hk : k ≤ 32) : bits .and .i64 n (2 ^ k - 1 : Int) = n % 2 ^ k := by
  have e : bits .and .i64 n (2 ^ k - 1 : Int) = IntKind.i64.wrap (((BitVec.ofInt 64 n &&& BitVec.ofInt 64 (2 ^ k - 1)).toNat : Nat) : Int) := rfl
  have hp : (2 : Nat) ^ k ≤ 2 ^ 32 := Nat.pow_le_pow_right (by decide) hk
  have hp0 : 0 < (2 : Nat) ^ k := Nat.pow_pos (by decide)
  have e2 : (BitVec.ofInt 64 (2 ^ k - 1)).toNat = 2 ^ k - 1 := by
    rw [BitVec.toNat_ofInt]
    have : ((2 : Int) ^ k - 1) = ((2 ^ k - 1 : Nat) : Int) := by rw [Int.natCast_sub hp0]; simp
    rw [this]
    omega
  rw [e, IntKind.wrap_i64, BitVec.toNat_and, e2, Nat.and_two_pow_sub_one_eq_mod, BitVec.toNat_ofInt]
  have hdvd : (((2 ^ k : Nat)) : Int) ∣ ((2 ^ 64 : Nat) : Int) := Int.natCast_dvd_natCast.2 (Nat.pow_dvd_pow 2 (by omega))
  have h1 : (((n % ((2 ^ 64 : Nat) : Int)).toNat % 2 ^ k : Nat) : Int) = n % 2 ^ k := by
    rw [Int.natCast_emod, Int.toNat_of_nonneg (Int.emod_nonneg _ (by decide))]
    have : (((2 ^ k : Nat)) : Int) = 2 ^ k := by simp
    rw [Int.emod_emod_of_dvd n hdvd, this]
  rw [h1]
  have h2 : 0 ≤ n % 2 ^ k := Int.emod_nonneg _ (by have : (0 : Int) < 2 ^ k := by exact_mod_cast hp0
                                                   omega)
  have h3 : n % 2 ^ k < 2 ^ k := Int.emod_lt_of_pos _ (by exact_mod_cast hp0)
  have h4 : (2 : Int) ^ k ≤ 2 ^ 32 := by exact_mod_cast hp
  omega
/-- A word's letter, and the word. -/
def ltr (n : Int) (i : Nat) : Nat := 97 + (n / 2 ^ (2 + 3 * i) % 8).toNat
def wordL (n : Int) : List Nat := (List.range (1 + (n % 4).toNat)).map (ltr n)
theorem conv_f1 (w : World) (x : Int) (cap : Nat) :
    (convert 56 9 (.slice (some ⟨w.heap.size, 0, none⟩) 1 cap)).run Tryd.prog (w.alloc (.cells #[.int .u8 x] 5)) = .ok (.string ⟨#[UInt8.ofNat x.toNat]⟩) (w.alloc (.cells #[.int .u8 x] 5)) := by
  rw [run_convert_bytes_arg (w.alloc (.cells #[.int .u8 x] 5)) 56 5 Tryd.underlying56 Tryd.underlying5 w.heap.size 0 1 cap [x] rfl (by
    intro i hi
    have : i = 0 := by omega
    subst this; simp [go_sem]) 9 Tryd.underlying9]
  rfl
attribute [local go_sem] conv_f1
theorem ltr_lt (n : Int) (i : Nat) : 97 ≤ ltr n i ∧ ltr n i ≤ 104 := by unfold ltr; omega
set_option maxHeartbeats 4000000 in
set_option maxRecDepth 100000 in
theorem word_any (n : Int) (w : World) : Calls Tryd.prog 31 #[.int .i64 n] w fun e w' => ∃ t, e = .returned (.string t) ∧ bysN t = wordL n ∧ Below w.heap.size w w' := by
  have hb3 := bits_low n 2 (by decide)
  have hb3' : bits .and .i64 n 3 = n % 4 := hb3
  have hk := Lib.hid (show 1 + n % 4 = ((1 + (n % 4).toNat : Nat) : Int) by omega)
  have hN := Lib.hid (show 1 + (n % 4).toNat ≤ 4 by omega)
  have HW : Hid (wordL n = (List.range (1 + (n % 4).toNat)).map (ltr n)) := Lib.hid rfl
  clear hb3
  have HL := Lib.hid (ltr_lt n)
  have Hbit : Hid (∀ i : Nat, bits .and .i64 (n / 2 ^ (2 + 3 * i)) 7 = ((ltr n i : Nat) : Int) - 97) := Lib.hid (fun i => by
    have h := bits_low (n / 2 ^ (2 + 3 * i)) 3 (by decide)
    have h' : bits .and .i64 (n / 2 ^ (2 + 3 * i)) 7 = n / 2 ^ (2 + 3 * i) % 8 := h
    rw [h']; unfold ltr; omega)
  generalize 1 + (n % 4).toNat = N at *
  go_enter Tryd.func31, Tryd.ntmps31
  go_wp2
  go_loopw [3, 5] (fun v i wi => ∃ (k : Nat) (T : ByteArray), k ≤ N ∧ i = .int .i64 (k : Int) ∧ v = .string T ∧ Hid (bysN T = (List.range k).map (ltr n)) ∧ T.size = k ∧ Below w.heap.size w wi) (fun _ i _ => N - (intOf i).toNat)
  case atStart => exact ⟨0, ⟨#[]⟩, by omega, rfl, rfl, Lib.hid rfl, rfl, BW_refl w⟩
  case round =>
    obtain ⟨k, T, hk1, rfl, rfl, hT, hTs, hb⟩ := hrel
    have hN4 := hN.out
    by_cases hk0 : k < N
    · have hki : (k : Int) < 1 + n % 4 := by have := hk.out; omega
      have hbit := Hbit.out k
      have hl := HL.out k
      have hlt := Lib.hid (show (List.range (k + 1)).map (ltr n) = (List.range k).map (ltr n) ++ [ltr n k] by rw [List.range_succ, List.map_append]; rfl)
      generalize ltr n k = c at *
      obtain ⟨T2, hT2, hadd⟩ := cat_big T ⟨#[UInt8.ofNat c]⟩ (by show T.size + 1 ≤ _; omega)
      have hT3 : Hid (bysN T2 = (List.range (k + 1)).map (ltr n)) := Lib.hid (by
        rw [hT2, hT.out, hlt.out]
        congr 1
        show [(UInt8.ofNat c).toNat] = [c]
        rw [UInt8.toNat_ofNat_of_lt' (by show c < 256; omega)])
      have hT4 : T2.size = k + 1 := by rw [← bysN_len, hT3.out, List.length_map, List.length_range]
      clear hT2
      obtain ⟨z, hz⟩ : ∃ z : Int, bits .and .i64 (n / 2 ^ (2 + 3 * k)) 7 = z := ⟨_, rfl⟩
      rw [hz] at hbit
      have hz2 : wrap64 (97 + z) = (c : Int) := by unfold wrap64; omega
      have hz3 : (c : Int) % 256 = (c : Int) := by omega
      have hk4 : k = 0 ∨ k = 1 ∨ k = 2 ∨ k = 3 := by omega
      clear hbit Hbit HL hlt hk hb3'
      have hN1 := Lib.hid hk0
      clear hN4 hk0 hk1
      rcases hk4 with rfl | rfl | rfl | rfl
      · have hz1 : bits .and .i64 (n / 4) 7 = z := hz
        clear hz
        go_wp2
        go_roundw
        case rel => exact ⟨1, T2, hN1.out, rfl, rfl, hT3, hT4, BW_alloc hb _⟩
        case measure => have := hN1.out; simp [intOf]; omega
      · have hz1 : bits .and .i64 (n / 32) 7 = z := hz
        clear hz
        go_wp2
        go_roundw
        case rel => exact ⟨2, T2, hN1.out, rfl, rfl, hT3, hT4, BW_alloc hb _⟩
        case measure => have := hN1.out; simp [intOf]; omega
      · have hz1 : bits .and .i64 (n / 256) 7 = z := hz
        clear hz
        go_wp2
        go_roundw
        case rel => exact ⟨3, T2, hN1.out, rfl, rfl, hT3, hT4, BW_alloc hb _⟩
        case measure => have := hN1.out; simp [intOf]; omega
      · have hz1 : bits .and .i64 (n / 2048) 7 = z := hz
        clear hz
        go_wp2
        go_roundw
        case rel => exact ⟨4, T2, hN1.out, rfl, rfl, hT3, hT4, BW_alloc hb _⟩
        case measure => have := hN1.out; simp [intOf]; omega
    · obtain rfl : k = N := by omega
      have hki : ¬ (k : Int) < 1 + n % 4 := by have := hk.out; omega
      go_wp2
      go_ret
      exact ⟨_, rfl, by rw [hT.out, HW.out], hb⟩
end Go.Proofs.YtkmdjnjpmhbhmaaDoor

/- The document's answers for layer 13; the walk of the law PacketAnswers. -/
import Derived.Test.YtkmdjnjpmhbhmaaDoorT6
import Derived.Test.YtkmdjnjpmhbhmaaDoorPkR
namespace Go.Proofs.YtkmdjnjpmhbhmaaDoor
open Go.RowKit
attribute [local go_sem ↓] Go.wp_at_zero Go.wp_at_succ
theorem conv_fresh1 (w : World) (x : Int) (cap : Nat) :
    (convert 56 9 (.slice (some ⟨w.heap.size, 0, none⟩) 1 cap)).run Tryd.prog (w.alloc (.cells #[.int .u8 x] 5)) = .ok (.string ⟨#[UInt8.ofNat x.toNat]⟩) (w.alloc (.cells #[.int .u8 x] 5)) := by
  rw [run_convert_bytes_arg (w.alloc (.cells #[.int .u8 x] 5)) 56 5 Tryd.underlying56 Tryd.underlying5 w.heap.size 0 1 cap [x] rfl (by
    intro i hi
    have : i = 0 := by omega
    subst this; simp [go_sem]) 9 Tryd.underlying9]
  rfl
attribute [local go_sem] conv_fresh1
theorem toL2 (u : UInt8) : (⟨#[45, u]⟩ : ByteArray).toList = [45, u] := by simp
theorem cat2 (c : UInt8) (s : ByteArray) (hs : s.size ≤ 1000000) : ∃ t : ByteArray, bysN t = c.toNat :: bysN s ∧ ∀ w, (Op.stringOp .add ⟨#[c]⟩ s).run Tryd.prog w = .ok (.string t) w :=
  ⟨⟨#[c]⟩ ++ s, bysN_append _ _, fun w => run_string_add_sum w ⟨#[c]⟩ s (by show 1 + s.size ≤ _; omega)⟩
theorem cat1 (u : UInt8) (w : World) : (Op.stringOp .add ⟨#[45]⟩ ⟨#[u]⟩).run Tryd.prog w = .ok (.string ⟨#[45, u]⟩) w := by
  have h := run_string_add_sum (P := Tryd.prog) w ⟨#[45]⟩ ⟨#[u]⟩ (by show 1 + 1 ≤ _; decide)
  rw [h]
  congr 2
theorem app2 (u : UInt8) : (⟨#[45]⟩ : ByteArray) ++ ⟨#[u]⟩ = ⟨#[45, u]⟩ := rfl
theorem rfailed_u (u : UInt8) (w : World) : Calls Tryd.prog 21 #[.int .i64 ((u.toNat : Nat) : Int)] w fun e w' => e = .returned (.string ⟨#[45, u]⟩) ∧ Below w.heap.size w w' := by
  have hu := u.toNat_lt
  have e1 : ((u.toNat : Nat) : Int) % 256 = ((u.toNat : Nat) : Int) := by omega
  have hc := cat1 u
  go_enter Tryd.func21, Tryd.ntmps21
  go_wp2_with fail
  go_ret
  exact ⟨rfl, BW_alloc (BW_refl w) _⟩
set_option maxHeartbeats 4000000 in
set_option maxRecDepth 100000 in
theorem rres_done (w : World) : Calls Tryd.prog 19 #[.string ⟨#[43]⟩] w fun e w' => e = .returned (.tuple #[.int .i64 0, .bool true]) ∧ Below w.heap.size w w' := by
  go_enter Tryd.func19, Tryd.ntmps19
  go_wp2_with fail
  go_ret2
  exact ⟨rfl, BW_refl w⟩
set_option maxHeartbeats 4000000 in
set_option maxRecDepth 100000 in
theorem rres_loop (s : ByteArray) (h43 : s ≠ ⟨#[43]⟩) (m : Nat) (hm1 : 1 ≤ m) (hm : m ≤ 256) (hbefore : ∀ x : UInt8, 0 < x.toNat → x.toNat < m → s ≠ ⟨#[45, x]⟩) (hat : m < 256 → s = ⟨#[45, UInt8.ofNat m]⟩) (w : World) :
    Calls Tryd.prog 19 #[.string s] w fun e w' => e = .returned (.tuple #[.int .i64 (if m < 256 then (m : Int) else 0), .bool (decide (m < 256))]) ∧ Below w.heap.size w w' := by
  have e1 := str_neq [43] (by decide +kernel) h43
  have Hb := Lib.hid hbefore
  have Ha := Lib.hid hat
  clear hbefore hat h43
  go_enter Tryd.func19, Tryd.ntmps19
  go_wp2_with fail
  go_loopw [4] (fun i wi => ∃ k : Nat, 1 ≤ k ∧ k ≤ m ∧ i = .int .i64 (k : Int) ∧ Below w.heap.size w wi) (fun i _ => 256 - (intOf i).toNat)
  case atStart => exact ⟨1, by omega, hm1, rfl, BW_refl w⟩
  case round =>
    obtain ⟨k, hk1, hk, rfl, hb⟩ := hrel
    by_cases h256 : k < 256
    · have hk2 : (k : Int) < 256 := by omega
      have hk3 : (k : Int) % 256 = (k : Int) := by omega
      have happ : (⟨#[45]⟩ : ByteArray) ++ ⟨#[UInt8.ofNat k]⟩ = ⟨#[45, UInt8.ofNat k]⟩ := app2 _
      have hun : (UInt8.ofNat k).toNat = k := by rw [UInt8.toNat_ofNat']; omega
      have hb2 := BW_alloc hb (.cells #[.int .u8 (k : Int)] 5)
      by_cases hkm : k < m
      · have hne := str_neq [45, UInt8.ofNat k] (toL2 _) (Hb.out (UInt8.ofNat k) (by omega) (by omega))
        clear hun
        go_wp2_with fail
        go_roundw
        case rel => exact ⟨k + 1, by omega, by omega, by go_num, hb2⟩
        case measure => simp [intOf]; omega
      · obtain rfl : k = m := by omega
        have hs := Ha.out h256
        subst hs
        have heq : ((⟨#[45, UInt8.ofNat k]⟩ : ByteArray).toList == [45, UInt8.ofNat k]) = true := by rw [toL2]; simp
        clear hun
        go_wp2_with fail
        go_ret2
        exact ⟨by first | rfl | (rw [if_pos h256, decide_eq_true h256]; rfl) | simp [h256], hb2⟩
    · obtain rfl : k = 256 := by omega
      obtain rfl : m = 256 := by omega
      go_wp2_with fail
      go_ret2
      exact ⟨rfl, hb⟩
/-- Both answers for what an answer says. -/
theorem res_both (s : ByteArray) : ∃ (E : Int) (B : Bool), Hid (∀ w, Calls Tryd.prog 18 #[.string s] w fun e w' => e = .returned (.tuple #[.int .i64 E, .bool B]) ∧ w = w') ∧ Hid (∀ w, Calls Tryd.prog 19 #[.string s] w fun e w' => e = .returned (.tuple #[.int .i64 E, .bool B]) ∧ Below w.heap.size w w') := by
  rcases ans s with h | ⟨x, hx, h⟩ | ⟨h1, h2⟩
  · subst h
    exact ⟨0, true, Lib.hid result_done, Lib.hid rres_done⟩
  · subst h
    have hxl := x.toNat_lt
    refine ⟨(x.toNat : Int), true, Lib.hid (result_fail x hx), Lib.hid fun w => ?_⟩
    have hne : (⟨#[45, x]⟩ : ByteArray) ≠ ⟨#[43]⟩ := fun h => by
      have h9 := congrArg ByteArray.size h
      exact absurd h9 (by show ¬ 2 = 1; decide)
    have h := rres_loop ⟨#[45, x]⟩ hne x.toNat (by omega) (by omega) (fun y hy hlt h => by
      have h9 := congrArg (fun b : ByteArray => b.toList) h
      simp only [toL2, List.cons.injEq, and_true, true_and] at h9
      rw [h9] at hlt
      omega) (fun _ => by rw [UInt8.ofNat_toNat]) w
    rw [if_pos (by omega), decide_eq_true (by omega)] at h
    exact h
  · refine ⟨0, false, Lib.hid (result_none s h1 h2), Lib.hid fun w => ?_⟩
    have h := rres_loop s h1 256 (by omega) (by omega) (fun y hy _ => h2 y hy) (fun h => absurd h (by decide)) w
    exact h
theorem rreceipt_any (s : ByteArray) (w : World) (hs : s.size ≤ 1000000) :
    Calls Tryd.prog 24 #[.string s] w fun e w' => e = .returned (.string (byt (sha (65 :: bysN s)))) ∧ Below w.heap.size w w' := by
  obtain ⟨t, ht, hc⟩ := cat2 65 s hs
  have hts : t.size ≤ 1000001 := by rw [← bysN_len, ht, List.length_cons, bysN_len]; omega
  have Hsh := Lib.hid (sha_IsH (65 :: bysN s))
  have HV : Hid (shaV (bysN t) = .agg (U8s (sha (65 :: bysN s))).toArray) := Lib.hid (by rw [ht]; rfl)
  generalize hL : sha (65 :: bysN s) = L at *
  have HL := Bx'.mk hL
  clear ht hL
  go_enter Tryd.func24, Tryd.ntmps24
  go_wp2_with fail
  refine (rquick_any t _ (by omega)).mono ?_
  rw [HV.out]
  rintro e w2 ⟨rfl, hb2⟩
  go_wp2_with fail
  refine (rtext_any L Hsh.out _).mono ?_
  rintro e w3 ⟨rfl, hb3⟩
  have hbf := BW_on hb2 hb3
  go_wp2_with fail
  go_ret
  exact ⟨rfl, hbf⟩
theorem and255p (x : Int) : ∃ u : UInt8, bits .and .i64 x 255 = ((u.toNat : Nat) : Int) := by
  have h : (BitVec.ofInt 64 x &&& BitVec.ofInt 64 255).toNat ≤ 255 := by
    rw [BitVec.toNat_and]
    exact Nat.le_trans Nat.and_le_right (by decide)
  have e : bits .and .i64 x 255 = IntKind.i64.wrap (((BitVec.ofInt 64 x &&& BitVec.ofInt 64 255).toNat : Nat) : Int) := rfl
  rw [IntKind.wrap_i64] at e
  refine ⟨UInt8.ofNat (BitVec.ofInt 64 x &&& BitVec.ofInt 64 255).toNat, ?_⟩
  rw [e, UInt8.toNat_ofNat']
  omega
set_option maxHeartbeats 4000000 in
set_option maxRecDepth 100000 in
theorem l13answers_any (n : Int) (s : ByteArray) (w : World) (ht : Hid (Tabs w)) :
    Calls Tryd.prog 3 #[.int .i64 n, .string s] w fun e w' => e = .returned (.bool true) ∧ Below w.heap.size w w' := by
  obtain ⟨u, hu⟩ := and255p n
  have hz := shN_size s 4
  have hsh := Lib.hid (short13_any s 4)
  generalize shN s 4 = t at *
  obtain ⟨E, B, hE1, hE2⟩ := res_both t
  obtain ⟨E2, B2, hF1, hF2⟩ := res_both ⟨#[45, u]⟩
  have hrec := Lib.hid (fun w ht => receipt_any t w (by omega) ht)
  have hrr := Lib.hid (fun w => rreceipt_any t w (by omega))
  generalize byt (sha (65 :: bysN t)) = R at *
  go_enter Tryd.func3, Tryd.ntmps3
  go_wp2_with fail
  refine (awake13 _).mono ?_
  rintro e w1 ⟨rfl, hb1⟩
  go_wp2_with fail
  refine (hsh.out _).mono ?_
  rintro e w' ⟨rfl, rfl⟩
  go_wp2_with fail
  refine (hE1.out _).mono ?_
  rintro e w' ⟨rfl, rfl⟩
  go_wp2_with fail
  refine (hE2.out _).mono ?_
  rintro e w2 ⟨rfl, hb2⟩
  replace hb1 := BW_on hb1 hb2
  go_wp2_with fail
  refine (failed_u u _).mono ?_
  rintro e w3 ⟨rfl, hb3⟩
  replace hb1 := BW_on hb1 hb3
  go_wp2_with fail
  refine (hF1.out _).mono ?_
  rintro e w' ⟨rfl, rfl⟩
  go_wp2_with fail
  refine (rfailed_u u _).mono ?_
  rintro e w4 ⟨rfl, hb4⟩
  replace hb1 := BW_on hb1 hb4
  go_wp2_with fail
  refine (hF2.out _).mono ?_
  rintro e w5 ⟨rfl, hb5⟩
  replace hb1 := BW_on hb1 hb5
  go_wp2_with fail
  refine (failed_u u _).mono ?_
  rintro e w6 ⟨rfl, hb6⟩
  replace hb1 := BW_on hb1 hb6
  go_wp2_with fail
  refine (rfailed_u u _).mono ?_
  rintro e w7 ⟨rfl, hb7⟩
  replace hb1 := BW_on hb1 hb7
  go_wp2_with fail
  refine (done_any _).mono ?_
  rintro e w' ⟨rfl, rfl⟩
  have hT := Lib.hid (ht.out.on hb1)
  go_wp2_with fail
  refine (hrec.out _ hT).mono ?_
  rintro e w8 ⟨rfl, hb8⟩
  replace hb1 := BW_on hb1 hb8
  go_wp2_with fail
  refine (hrr.out _).mono ?_
  rintro e w9 ⟨rfl, hb9⟩
  replace hb1 := BW_on hb1 hb9
  go_wp2_with fail
  go_ret
  exact ⟨by first | rfl | simp, hb1⟩
end Go.Proofs.YtkmdjnjpmhbhmaaDoor

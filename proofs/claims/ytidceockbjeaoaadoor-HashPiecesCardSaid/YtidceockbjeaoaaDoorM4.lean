/- The tables as the words say: the root of a number, to 32 bits behind the point. -/
import Derived.Test.YtidceockbjeaoaaDoorM3
import Derived.Test.YtidceockbjeaoaaDoorS1
import Derived.Deep.DeepCutAuto
namespace Go.Proofs.YtidceockbjeaoaaDoor
open Go.RowKit
attribute [local go_sem ↓] Go.wp_at_zero Go.wp_at_succ
/-- Is the power of y not above p times 2 to 32 times it? -/
def rle (p : Nat) (cube : Bool) (y : Nat) : Bool := if cube then decide (y * y * y ≤ p * 79228162514264337593543950336) else decide (y * y ≤ p * 18446744073709551616)
/-- The root's bits from above, so many of them. -/
def rx (p : Nat) (cube : Bool) : Nat → Nat
  | 0 => 0
  | k + 1 => if rle p cube (rx p cube k + 2 ^ (39 - k)) then rx p cube k + 2 ^ (39 - k) else rx p cube k
def rootN (p : Nat) (cube : Bool) : Nat := rx p cube 40 % 4294967296
theorem rx_div (p : Nat) (cube : Bool) (k : Nat) (hk : k ≤ 40) : ∃ q, rx p cube k = 2 ^ (40 - k) * q ∧ q < 2 ^ k := by
  induction k with
  | zero => exact ⟨0, rfl, by decide⟩
  | succ k ih =>
    obtain ⟨q, hq, hlt⟩ := ih (by omega)
    have e : 2 ^ (40 - k) = 2 ^ (39 - k) * 2 := by rw [show 40 - k = (39 - k) + 1 by omega, Nat.pow_succ]
    have e2 : 40 - (k + 1) = 39 - k := by omega
    rw [e2]
    show ∃ q', (if rle p cube (rx p cube k + 2 ^ (39 - k)) = true then rx p cube k + 2 ^ (39 - k) else rx p cube k) = 2 ^ (39 - k) * q' ∧ q' < 2 ^ (k + 1)
    rw [hq, e, Nat.pow_succ]
    split
    · exact ⟨2 * q + 1, by rw [Nat.mul_add, Nat.mul_one, Nat.mul_assoc], by omega⟩
    · exact ⟨2 * q, by rw [Nat.mul_assoc], by omega⟩
theorem rx_or (p : Nat) (cube : Bool) (k : Nat) (hk : k < 40) : bits .or .u64 ((rx p cube k : Nat) : Int) ((2 ^ (39 - k) : Nat) : Int) = ((rx p cube k + 2 ^ (39 - k) : Nat) : Int) ∧ rx p cube k + 2 ^ (39 - k) < 1099511627776 := by
  obtain ⟨q, hq, hlt⟩ := rx_div p cube k (by omega)
  have e : 2 ^ (40 - k) = 2 ^ (39 - k) * 2 := by rw [show 40 - k = (39 - k) + 1 by omega, Nat.pow_succ]
  have hb : 2 ^ (39 - k) < 2 ^ (40 - k) := by rw [e]; have := Nat.two_pow_pos (39 - k); omega
  have h40 : 2 ^ (40 - k) * 2 ^ k = 1099511627776 := by rw [← Nat.pow_add, show 40 - k + k = 40 by omega]
  have hle := Nat.mul_le_mul_left (2 ^ (40 - k)) (show q + 1 ≤ 2 ^ k from hlt)
  rw [Nat.mul_add, Nat.mul_one, h40] at hle
  have hsum : rx p cube k + 2 ^ (39 - k) < 1099511627776 := by rw [hq]; omega
  refine ⟨?_, hsum⟩
  have e0 : bits .or .u64 ((rx p cube k : Nat) : Int) ((2 ^ (39 - k) : Nat) : Int) = IntKind.u64.wrap (((BitVec.ofInt 64 ((rx p cube k : Nat) : Int) ||| BitVec.ofInt 64 ((2 ^ (39 - k) : Nat) : Int)).toNat : Nat) : Int) := rfl
  rw [e0, BitVec.toNat_or, BitVec.ofInt_natCast, BitVec.ofInt_natCast, BitVec.toNat_ofNat, BitVec.toNat_ofNat, Nat.mod_eq_of_lt (show rx p cube k < 2 ^ 64 by omega), Nat.mod_eq_of_lt (show 2 ^ (39 - k) < 2 ^ 64 by omega), IntKind.wrap_u64]
  have h := Nat.two_pow_add_eq_or_of_lt hb q
  rw [← hq] at h
  rw [← h]
  omega
theorem infoU64 : (Tryd.prog.info? 71).map (fun i => (i.zero, i.size, i.bytes)) = some (some (.int .u64 0), 1, 8) := by kernel_rfl
theorem own2_R64 {w : World} {base n : Nat} {v : Value} {l : List Nat} (h : own2 w base 71 v n (U64s l)) (hn : n = l.length) : R64 w v l := by
  subst hn
  rcases h with ⟨rfl, h0, h1⟩ | h
  · have : l = [] := List.map_eq_nil_iff.1 h1
    subst this
    exact ⟨none, 0, rfl, fun h => absurd h (Nat.lt_irrefl 0)⟩
  · obtain ⟨g, cap, rfl, _, _, _, _, hc⟩ := h.form
    refine ⟨_, cap, rfl, fun _ => ⟨g, 0, rfl, fun i hi => ?_⟩⟩
    rw [Nat.zero_add]
    exact hc i _ (by have h9 := U64s_at hi; rwa [List.getElem?_toArray] at h9)
set_option maxHeartbeats 4000000 in
set_option maxRecDepth 100000 in
theorem rroot_false (p : Nat) (w : World) (hp : p < 65536) :
    Calls Tryd.prog 39 #[.int .u64 (p : Int), .bool false] w fun e w' => e = .returned (.int .u32 ((rootN p false : Nat) : Int)) ∧ Below w.heap.size w w' := by
  obtain ⟨i0, hi0, iz0, iz1, iz2⟩ := info_parts infoU64
  go_enter Tryd.func39, Tryd.ntmps39
  go_wp2_with fail
  go_loopw [5, 6, 7, 8, 9, 10, 11, 12] (fun x bit _ _ _ _ _ _ wi => ∃ k : Nat, k ≤ 40 ∧ x = .int .u64 ((rx p false k : Nat) : Int) ∧ bit = .int .i64 (39 - (k : Int)) ∧ Below w.heap.size w wi) (fun _ bit _ _ _ _ _ _ _ => (intOf bit + 1).toNat)
  case atStart => exact ⟨0, by omega, rfl, rfl, BW_refl w⟩
  case round =>
  obtain ⟨k, hk, rfl, rfl, hb⟩ := hrel
  by_cases hk0 : k < 40
  · obtain ⟨hor, hYlt⟩ := rx_or p false k hk0
    generalize hY : rx p false k + 2 ^ (39 - k) = Y at *
    have hrx1 : Hid (rle p false Y = true → rx p false (k + 1) = Y) := Lib.hid (fun h => by show (if rle p false (rx p false k + 2 ^ (39 - k)) = true then rx p false k + 2 ^ (39 - k) else rx p false k) = _; rw [hY, if_pos h])
    have hrx0 : Hid (rle p false Y = false → rx p false (k + 1) = rx p false k) := Lib.hid (fun h => by show (if rle p false (rx p false k + 2 ^ (39 - k)) = true then rx p false k + 2 ^ (39 - k) else rx p false k) = _; rw [hY, if_neg (by rw [h]; decide)])
    clear hY
    have hm39 : 39 - (k : Int) = ((39 - k : Nat) : Int) := by omega
    rw [hm39]
    have hm40 : 39 - k < 40 := by omega
    have hpow : ((2 : Int) ^ (39 - k)) % 18446744073709551616 = ((2 ^ (39 - k) : Nat) : Int) := by
      have h1 := Nat.pow_lt_pow_right (a := 2) (by decide) hm40
      rw [show ((2 : Int) ^ (39 - k)) = ((2 ^ (39 - k) : Nat) : Int) from (Int.natCast_pow 2 (39 - k)).symm]
      have h3 : (2 : Nat) ^ 40 = 1099511627776 := rfl
      generalize 2 ^ (39 - k) = z at *
      omega
    have hpw : IntKind.u64.wrap ((2 : Int) ^ (39 - k)) = ((2 ^ (39 - k) : Nat) : Int) := by rw [IntKind.wrap_u64]; exact hpow
    clear hpow
    generalize hP : 2 ^ (39 - k) = P at *
    generalize hm : 39 - k = m at *
    clear hP
    generalize hX : rx p false k = X at *
    have HX := Bx.mk hX
    clear hX
    have hmk : (39 : Int) - (k : Int) = (m : Int) := hm39
    have Hm : Hid (m + k = 39) := Lib.hid (by omega)
    clear hm39 hm hmk
    have hw1 : IntKind.u64.wrap (m : Int) = (m : Int) := by rw [IntKind.wrap_u64]; omega
    have hm0 : (0 : Int) ≤ (m : Int) := by omega
    have hY64 : Y < 18446744073709551616 := by omega
    have hD := D16_of (dg16_lt Y hY64)
    go_wp2_with fail
    refine (rdig_any Y hY64 _).mono ?_
    rintro e w1 ⟨v1, rfl, hr1, hb1⟩
    go_wp2_with fail
    refine (rdig_any Y hY64 _).mono ?_
    rintro e w2 ⟨v2, rfl, hr2, hb2⟩
    go_wp2_with fail
    refine (rtimes_any v1 v2 (dg16 Y) (dg16 Y) _ (Lib.hid (hr1.on hb2)) (Lib.hid hr2) (.inl rfl) rfl hD hD).mono ?_
    rintro e w3 ⟨vn, N, rfl, hrn, hNl, hND, hvn, hb3⟩
    rw [val_dg16] at hvn
    rw [show (dg16 Y).length + 5 = 9 from rfl] at hNl
    have hbw := BW_on (BW_on (BW_on hb hb1) hb2) hb3
    clear hr1 hr2 hb hb1 hb2 hb3
    have hvx : Hid (decide (p * 65536 ^ 4 < val N) = !(rle p false Y)) := Lib.hid (by
      rw [hvn]
      show _ = !(decide (_ ≤ _))
      rw [show (65536 : Nat) ^ 4 = 18446744073709551616 from rfl, ← decide_not]
      congr 1
      exact propext Nat.not_le.symm)
    clear hvn
    generalize hgb : w3.heap.size = base at *
    have hbb : Below base w3 w3 := by rw [← hgb]; exact BW_refl w3
    go_wp2_with fail
    go_loopw [10, 11] (fun v i wi => ∃ j : Nat, j ≤ 4 ∧ i = .int .i64 (j : Int) ∧ own2 wi base 71 v j (U64s (List.replicate j 0)) ∧ Below base w3 wi) (fun _ i _ => 4 - (intOf i).toNat)
    case atStart => exact ⟨0, by omega, rfl, own2.nil _ _ _, hbb⟩
    case round =>
      clear hbb
      obtain ⟨j, hj, rfl, hown, hbb⟩ := hrel
      have hzz := hbb.size
      rw [hgb] at hzz
      by_cases hj0 : j < 4
      · have hj1 : (j : Int) < 4 := by omega
        go_wp2_with (at_builtin; go_must (refine @wpList_push2 Tryd.prog _ _ _ _ _ wr rfl _ _ 68 rfl base 71 i0 (.int .u64 0) 8 Tryd.underlying68 hi0 iz0 iz1 iz2 rfl u10 j (U64s (List.replicate j 0)) ?q1 hown (.int .u64 0) wr.heap.size ?q2 rfl rfl ?q3 ?q4 ?q5 ?_; (case q1 => rfl); (case q2 => rfl); (case q3 => unfold maxLen; omega); (case q4 => omega); (case q5 => omega)); intro a2 w6 ha2 hg2 hn2)
        have hb6 := hbb.grown hg2 (by omega) (own2.le hown)
        rw [show U64s (List.replicate j 0) ++ [.int .u64 0] = U64s (List.replicate (j + 1) 0) from by simp [U64s, List.replicate_succ']] at ha2
        go_roundw
        case rel => exact ⟨j + 1, by omega, by go_num, ha2, hb6⟩
        case measure => simp [intOf]; omega
      · obtain rfl : j = 4 := by omega
        go_wp2_with (at_builtin; go_must (refine @wpList_push2 Tryd.prog _ _ _ _ _ wr rfl _ _ 68 rfl base 71 i0 (.int .u64 0) 8 Tryd.underlying68 hi0 iz0 iz1 iz2 rfl u10 4 (U64s (List.replicate 4 0)) ?q1 hown (.int .u64 (p : Int)) wr.heap.size ?q2 rfl rfl ?q3 ?q4 ?q5 ?_; (case q1 => rfl); (case q2 => rfl); (case q3 => unfold maxLen; omega); (case q4 => omega); (case q5 => omega)); intro a2 w6 ha2 hg2 hn2)
        have hb6 := hbb.grown hg2 (by omega) (own2.le hown)
        rw [show U64s (List.replicate 4 0) ++ [.int .u64 (p : Int)] = U64s (List.replicate 4 0 ++ [p]) from by simp [U64s]] at ha2
        have hrmost := own2_R64 ha2 (by rw [List.length_append, List.length_replicate]; rfl)
        have hmost : val (List.replicate 4 0 ++ [p]) = p * 65536 ^ 4 := by rw [val_app, val_zeros, List.length_replicate]; simp [val, Nat.mul_comm]
        have hmD : D16 (List.replicate 4 0 ++ [p]) := D16_of fun d hd => by
          rcases List.mem_append.1 hd with h | h
          · have := (List.mem_replicate.1 h).2; omega
          · simp at h; omega
        have hml : (List.replicate 4 0 ++ [p]).length ≤ 41 := by rw [List.length_append, List.length_replicate]; show 4 + 1 ≤ 41; decide
        generalize List.replicate 4 0 ++ [p] = MO at *
        have hb6' : Below w3.heap.size w3 w6 := by rw [hgb]; exact hb6
        refine (rgreater_any vn a2 N MO _ (Lib.hid (hrn.on hb6')) (Lib.hid hrmost) (by omega) hml hND hmD).mono ?_
        rw [hmost, hvx.out]
        rintro e w7 ⟨rfl, rfl⟩
        have hfin := BW_on hbw hb6'
        clear hbw hb6 hb6' hbb hown hg2 hn2 ha2 hrmost hmost hmD hml
        by_cases hres : rle p false Y = true
        · rw [hres]
          have hrx := Lib.hid (hrx1.out hres)
          go_wp2_with fail
          go_roundw
          case rel =>
            have hm9 := Hm.out
            exact ⟨k + 1, by omega, by rw [hrx.out], congrArg (Value.int .i64) (by omega), hfin⟩
          case measure => have hm9 := Hm.out; simp [intOf]
        · have hres2 : rle p false Y = false := by simpa using hres
          rw [hres2]
          have hrx := Lib.hid (hrx0.out hres2)
          go_wp2_with fail
          go_roundw
          case rel =>
            have hm9 := Hm.out
            exact ⟨k + 1, by omega, by rw [hrx.out], congrArg (Value.int .i64) (by omega), hfin⟩
          case measure => have hm9 := Hm.out; simp [intOf]
  · obtain rfl : k = 40 := by omega
    have hfn : Hid (((rootN p false : Nat) : Int) = ((rx p false 40 : Nat) : Int) % 4294967296) := Lib.hid (by unfold rootN; omega)
    go_wp2_with fail
    go_ret
    exact ⟨by rw [hfn.out]; rfl, hb⟩
set_option maxHeartbeats 4000000 in
set_option maxRecDepth 100000 in
theorem rroot_true (p : Nat) (w : World) (hp : p < 65536) :
    Calls Tryd.prog 39 #[.int .u64 (p : Int), .bool true] w fun e w' => e = .returned (.int .u32 ((rootN p true : Nat) : Int)) ∧ Below w.heap.size w w' := by
  obtain ⟨i0, hi0, iz0, iz1, iz2⟩ := info_parts infoU64
  go_enter Tryd.func39, Tryd.ntmps39
  go_wp2_with fail
  go_loopw [5, 6, 7, 8, 9, 10, 11, 12] (fun x bit _ _ _ _ _ _ wi => ∃ k : Nat, k ≤ 40 ∧ x = .int .u64 ((rx p true k : Nat) : Int) ∧ bit = .int .i64 (39 - (k : Int)) ∧ Below w.heap.size w wi) (fun _ bit _ _ _ _ _ _ _ => (intOf bit + 1).toNat)
  case atStart => exact ⟨0, by omega, rfl, rfl, BW_refl w⟩
  case round =>
  obtain ⟨k, hk, rfl, rfl, hb⟩ := hrel
  by_cases hk0 : k < 40
  · obtain ⟨hor, hYlt⟩ := rx_or p true k hk0
    generalize hY : rx p true k + 2 ^ (39 - k) = Y at *
    have hrx1 : Hid (rle p true Y = true → rx p true (k + 1) = Y) := Lib.hid (fun h => by show (if rle p true (rx p true k + 2 ^ (39 - k)) = true then rx p true k + 2 ^ (39 - k) else rx p true k) = _; rw [hY, if_pos h])
    have hrx0 : Hid (rle p true Y = false → rx p true (k + 1) = rx p true k) := Lib.hid (fun h => by show (if rle p true (rx p true k + 2 ^ (39 - k)) = true then rx p true k + 2 ^ (39 - k) else rx p true k) = _; rw [hY, if_neg (by rw [h]; decide)])
    clear hY
    have hm39 : 39 - (k : Int) = ((39 - k : Nat) : Int) := by omega
    rw [hm39]
    have hm40 : 39 - k < 40 := by omega
    have hpow : ((2 : Int) ^ (39 - k)) % 18446744073709551616 = ((2 ^ (39 - k) : Nat) : Int) := by
      have h1 := Nat.pow_lt_pow_right (a := 2) (by decide) hm40
      rw [show ((2 : Int) ^ (39 - k)) = ((2 ^ (39 - k) : Nat) : Int) from (Int.natCast_pow 2 (39 - k)).symm]
      have h3 : (2 : Nat) ^ 40 = 1099511627776 := rfl
      generalize 2 ^ (39 - k) = z at *
      omega
    have hpw : IntKind.u64.wrap ((2 : Int) ^ (39 - k)) = ((2 ^ (39 - k) : Nat) : Int) := by rw [IntKind.wrap_u64]; exact hpow
    clear hpow
    generalize hP : 2 ^ (39 - k) = P at *
    generalize hm : 39 - k = m at *
    clear hP
    generalize hX : rx p true k = X at *
    have HX := Bx.mk hX
    clear hX
    have hmk : (39 : Int) - (k : Int) = (m : Int) := hm39
    have Hm : Hid (m + k = 39) := Lib.hid (by omega)
    clear hm39 hm hmk
    have hw1 : IntKind.u64.wrap (m : Int) = (m : Int) := by rw [IntKind.wrap_u64]; omega
    have hm0 : (0 : Int) ≤ (m : Int) := by omega
    have hY64 : Y < 18446744073709551616 := by omega
    have hD := D16_of (dg16_lt Y hY64)
    go_wp2_with fail
    refine (rdig_any Y hY64 _).mono ?_
    rintro e w1 ⟨v1, rfl, hr1, hb1⟩
    go_wp2_with fail
    refine (rdig_any Y hY64 _).mono ?_
    rintro e w2 ⟨v2, rfl, hr2, hb2⟩
    go_wp2_with fail
    refine (rtimes_any v1 v2 (dg16 Y) (dg16 Y) _ (Lib.hid (hr1.on hb2)) (Lib.hid hr2) (.inl rfl) rfl hD hD).mono ?_
    rintro e w3 ⟨vn, N, rfl, hrn, hNl, hND, hvn, hb3⟩
    rw [val_dg16] at hvn
    rw [show (dg16 Y).length + 5 = 9 from rfl] at hNl
    have hbw := BW_on (BW_on (BW_on hb hb1) hb2) hb3
    clear hr1 hr2 hb hb1 hb2 hb3
    go_wp2_with fail
    refine (rdig_any Y hY64 _).mono ?_
    rintro e w4 ⟨v4, rfl, hr4, hb4⟩
    go_wp2_with fail
    refine (rtimes_any vn v4 N (dg16 Y) _ (Lib.hid (hrn.on hb4)) (Lib.hid hr4) (.inr hNl) rfl hND hD).mono ?_
    rintro e w5 ⟨vm, M, rfl, hrm, hMl, hMD, hvm, hb5⟩
    rw [val_dg16, hvn] at hvm
    rw [hNl] at hMl
    replace hbw := BW_on (BW_on hbw hb4) hb5
    clear hr4 hb4 hb5 hrn hNl hND hvn
    have hvx : Hid (decide (p * 65536 ^ 6 < val M) = !(rle p true Y)) := Lib.hid (by
      rw [hvm]
      show _ = !(decide (_ ≤ _))
      rw [show (65536 : Nat) ^ 6 = 79228162514264337593543950336 from rfl, ← decide_not]
      congr 1
      exact propext Nat.not_le.symm)
    clear hvm
    generalize hgb : w5.heap.size = base at *
    have hbb : Below base w5 w5 := by rw [← hgb]; exact BW_refl w5
    go_wp2_with fail
    go_loopw [10, 11] (fun v i wi => ∃ j : Nat, j ≤ 6 ∧ i = .int .i64 (j : Int) ∧ own2 wi base 71 v j (U64s (List.replicate j 0)) ∧ Below base w5 wi) (fun _ i _ => 6 - (intOf i).toNat)
    case atStart => exact ⟨0, by omega, rfl, own2.nil _ _ _, hbb⟩
    case round =>
      clear hbb
      obtain ⟨j, hj, rfl, hown, hbb⟩ := hrel
      have hzz := hbb.size
      rw [hgb] at hzz
      by_cases hj0 : j < 6
      · have hj1 : (j : Int) < 6 := by omega
        go_wp2_with (at_builtin; go_must (refine @wpList_push2 Tryd.prog _ _ _ _ _ wr rfl _ _ 68 rfl base 71 i0 (.int .u64 0) 8 Tryd.underlying68 hi0 iz0 iz1 iz2 rfl u10 j (U64s (List.replicate j 0)) ?q1 hown (.int .u64 0) wr.heap.size ?q2 rfl rfl ?q3 ?q4 ?q5 ?_; (case q1 => rfl); (case q2 => rfl); (case q3 => unfold maxLen; omega); (case q4 => omega); (case q5 => omega)); intro a2 w6 ha2 hg2 hn2)
        have hb6 := hbb.grown hg2 (by omega) (own2.le hown)
        rw [show U64s (List.replicate j 0) ++ [.int .u64 0] = U64s (List.replicate (j + 1) 0) from by simp [U64s, List.replicate_succ']] at ha2
        go_roundw
        case rel => exact ⟨j + 1, by omega, by go_num, ha2, hb6⟩
        case measure => simp [intOf]; omega
      · obtain rfl : j = 6 := by omega
        go_wp2_with (at_builtin; go_must (refine @wpList_push2 Tryd.prog _ _ _ _ _ wr rfl _ _ 68 rfl base 71 i0 (.int .u64 0) 8 Tryd.underlying68 hi0 iz0 iz1 iz2 rfl u10 6 (U64s (List.replicate 6 0)) ?q1 hown (.int .u64 (p : Int)) wr.heap.size ?q2 rfl rfl ?q3 ?q4 ?q5 ?_; (case q1 => rfl); (case q2 => rfl); (case q3 => unfold maxLen; omega); (case q4 => omega); (case q5 => omega)); intro a2 w6 ha2 hg2 hn2)
        have hb6 := hbb.grown hg2 (by omega) (own2.le hown)
        rw [show U64s (List.replicate 6 0) ++ [.int .u64 (p : Int)] = U64s (List.replicate 6 0 ++ [p]) from by simp [U64s]] at ha2
        have hrmost := own2_R64 ha2 (by rw [List.length_append, List.length_replicate]; rfl)
        have hmost : val (List.replicate 6 0 ++ [p]) = p * 65536 ^ 6 := by rw [val_app, val_zeros, List.length_replicate]; simp [val, Nat.mul_comm]
        have hmD : D16 (List.replicate 6 0 ++ [p]) := D16_of fun d hd => by
          rcases List.mem_append.1 hd with h | h
          · have := (List.mem_replicate.1 h).2; omega
          · simp at h; omega
        have hml : (List.replicate 6 0 ++ [p]).length ≤ 41 := by rw [List.length_append, List.length_replicate]; show 6 + 1 ≤ 41; decide
        generalize List.replicate 6 0 ++ [p] = MO at *
        have hb6' : Below w5.heap.size w5 w6 := by rw [hgb]; exact hb6
        refine (rgreater_any vm a2 M MO _ (Lib.hid (hrm.on hb6')) (Lib.hid hrmost) (by omega) hml hMD hmD).mono ?_
        rw [hmost, hvx.out]
        rintro e w7 ⟨rfl, rfl⟩
        have hfin := BW_on hbw hb6'
        clear hbw hb6 hb6' hbb hown hg2 hn2 ha2 hrmost hmost hmD hml
        by_cases hres : rle p true Y = true
        · rw [hres]
          have hrx := Lib.hid (hrx1.out hres)
          go_wp2_with fail
          go_roundw
          case rel =>
            have hm9 := Hm.out
            exact ⟨k + 1, by omega, by rw [hrx.out], congrArg (Value.int .i64) (by omega), hfin⟩
          case measure => have hm9 := Hm.out; simp [intOf]
        · have hres2 : rle p true Y = false := by simpa using hres
          rw [hres2]
          have hrx := Lib.hid (hrx0.out hres2)
          go_wp2_with fail
          go_roundw
          case rel =>
            have hm9 := Hm.out
            exact ⟨k + 1, by omega, by rw [hrx.out], congrArg (Value.int .i64) (by omega), hfin⟩
          case measure => have hm9 := Hm.out; simp [intOf]
  · obtain rfl : k = 40 := by omega
    have hfn : Hid (((rootN p true : Nat) : Int) = ((rx p true 40 : Nat) : Int) % 4294967296) := Lib.hid (by unfold rootN; omega)
    go_wp2_with fail
    go_ret
    exact ⟨by rw [hfn.out]; rfl, hb⟩
end Go.Proofs.YtidceockbjeaoaaDoor

/- The walk of the law PacketResults. -/
import Derived.Test.YtkmdjnjpmhbhmaaDoorPk2
import Derived.Test.YtkmdjnjpmhbhmaaDoorDe
namespace Go.Proofs.YtkmdjnjpmhbhmaaDoor
open Go.RowKit
attribute [local go_sem ↓] Go.wp_at_zero Go.wp_at_succ
theorem m255 (x : Int) : ∃ A : Nat, 1 ≤ A ∧ A ≤ 255 ∧ IntKind.i64.wrap (1 + (IntKind.i64.wrap (x.tmod 255 + 255)).tmod 255) = (A : Int) ∧ wrap64 (1 + (wrap64 (x.tmod 255 + 255)).tmod 255) = (A : Int) ∧ IntKind.i64.wrap (1 + (x.tmod 255 + 255).tmod 255) = (A : Int) ∧ 1 + (x.tmod 255 + 255).tmod 255 = (A : Int) := by
  have t1 := Int.tmod_lt_of_pos x (b := 255) (by omega)
  have t2 := Int.lt_tmod_of_pos x (b := 255) (by omega)
  generalize x.tmod 255 = y at *
  have h1 : IntKind.i64.wrap (y + 255) = y + 255 := by rw [IntKind.wrap_i64]; omega
  have h1' : wrap64 (y + 255) = y + 255 := by unfold wrap64; omega
  rw [h1, h1']
  have t3 := Int.tmod_lt_of_pos (y + 255) (b := 255) (by omega)
  have t4 := Int.tmod_nonneg (a := y + 255) 255 (by omega)
  generalize (y + 255).tmod 255 = z at *
  have h2 : IntKind.i64.wrap (1 + z) = 1 + z := by rw [IntKind.wrap_i64]; omega
  have h2' : wrap64 (1 + z) = 1 + z := by unfold wrap64; omega
  rw [h2, h2']
  exact ⟨(1 + z).toNat, by omega, by omega, by omega, by omega, by omega, by omega⟩
/-- What an answer says: one that came well; one that failed so; nothing. -/
inductive Ans (s : ByteArray) : Prop
  | done (h : s = ⟨#[43]⟩)
  | fail (x : UInt8) (hx : 0 < x.toNat) (h : s = ⟨#[45, x]⟩)
  | none (h1 : s ≠ ⟨#[43]⟩) (h2 : ∀ x : UInt8, 0 < x.toNat → s ≠ ⟨#[45, x]⟩)
theorem ans (s : ByteArray) : Ans s := by
  by_cases h1 : s = ⟨#[43]⟩
  · exact .done h1
  · by_cases h2 : ∃ x : UInt8, 0 < x.toNat ∧ s = ⟨#[45, x]⟩
    · obtain ⟨x, hx, h⟩ := h2
      exact .fail x hx h
    · exact .none h1 (fun x hx h => h2 ⟨x, hx, h⟩)
theorem str_neq {s t : ByteArray} (l : List UInt8) (hl : t.toList = l) (h : s ≠ t) : (s.toList == l) = false := by
  rw [← hl, beq_kl]
  exact decide_eq_false h
theorem two_bytes {s : ByteArray} (h : s.size = 2) : ∃ a b, s = ⟨#[a, b]⟩ := by
  obtain ⟨⟨l⟩⟩ := s
  match l, h with
  | [a, b], _ => exact ⟨a, b, rfl⟩
set_option maxHeartbeats 1000000 in
theorem result_none (s : ByteArray) (h1 : s ≠ ⟨#[43]⟩) (h2 : ∀ x : UInt8, 0 < x.toNat → s ≠ ⟨#[45, x]⟩) (w : World) : Calls Tryd.prog 18 #[.string s] w fun e w' => e = .returned (.tuple #[.int .i64 0, .bool false]) ∧ w = w' := by
  have e1 := str_neq [43] (by decide +kernel) h1
  by_cases hs : s.size = 2
  · obtain ⟨a, b, rfl⟩ := two_bytes hs
    by_cases ha : a = 45
    · subst ha
      have hb : b = 0 := by
        have h3 := h2 b
        have h4 : ¬ 0 < b.toNat := fun h => h3 h rfl
        exact UInt8.toNat_inj.1 (by rw [show (0 : UInt8).toNat = 0 from rfl]; omega)
      subst hb
      clear h1 h2 e1
      go_enter Tryd.func18, Tryd.ntmps18
      go_wp2_with fail
      go_ret2
      exact ⟨rfl, rfl⟩
    · have ha2 : ¬ (a.toNat : Int) = 45 := fun h => ha (UInt8.toNat_inj.1 (by rw [show (45 : UInt8).toNat = 45 from rfl]; omega))
      have ga : ∀ h : 0 < (⟨#[a, b]⟩ : ByteArray).size, (⟨#[a, b]⟩ : ByteArray)[0]'h = a := fun _ => rfl
      clear h1 h2
      go_enter Tryd.func18, Tryd.ntmps18
      go_wp2_with fail
      go_ret2
      exact ⟨rfl, rfl⟩
  · have hs2 : ¬ (s.size : Int) = 2 := by omega
    clear h1 h2
    go_enter Tryd.func18, Tryd.ntmps18
    go_wp2_with fail
    go_ret2
    exact ⟨rfl, rfl⟩
theorem failed_u (u : UInt8) (w : World) : Calls Tryd.prog 20 #[.int .i64 ((u.toNat : Nat) : Int)] w fun e w' => e = .returned (.string ⟨#[45, u]⟩) ∧ Below w.heap.size w w' := by
  refine (failed_any _ w).mono ?_
  rintro e w' ⟨rfl, hb⟩
  have hu := u.toNat_lt
  have e1 : (((u.toNat : Nat) : Int) % 256).toNat = u.toNat := by omega
  exact ⟨by rw [e1, UInt8.ofNat_toNat], hb⟩
set_option maxHeartbeats 4000000 in
set_option maxRecDepth 100000 in
theorem l13results_any (a b : Int) (s : ByteArray) (w : World) (ht : Hid (Tabs w)) :
    Calls Tryd.prog 4 #[.int .i64 a, .int .i64 b, .string s] w fun e w' => e = .returned (.bool true) ∧ Below w.heap.size w w' := by
  obtain ⟨A, hA1, hA2, qa1, qa2, qa3, qa4⟩ := m255 a
  obtain ⟨B, hB1, hB2, qb1, qb2, qb3, qb4⟩ := m255 b
  obtain ⟨u, rfl⟩ : ∃ u : UInt8, A = u.toNat := ⟨UInt8.ofNat A, by rw [UInt8.toNat_ofNat']; omega⟩
  obtain ⟨v, rfl⟩ : ∃ v : UInt8, B = v.toNat := ⟨UInt8.ofNat B, by rw [UInt8.toNat_ofNat']; omega⟩
  have hz := shN_size s 6
  have hsh := Lib.hid (short13_any s 6)
  generalize shN s 6 = t at *
  go_enter Tryd.func4, Tryd.ntmps4
  go_wp2_with fail
  refine (awake13 _).mono ?_
  rintro e w1 ⟨rfl, hb1⟩
  have hT1 := ht.out.on hb1
  go_wp2_with fail
  rw [qa2, qb2]
  clear qa1 qa2 qa3 qa4 qb1 qb2 qb3 qb4
  refine (failed_u u _).mono ?_
  rintro e w2 ⟨rfl, hb2⟩
  have hT2 := hT1.on hb2
  go_wp2_with fail
  refine (failed_u v _).mono ?_
  rintro e w3 ⟨rfl, hb3⟩
  have hT3 := hT2.on hb3
  go_wp2_with fail
  refine (result_fail u (by omega) _).mono ?_
  rintro e w' ⟨rfl, rfl⟩
  go_wp2_with fail
  refine (hsh.out _).mono ?_
  rintro e w' ⟨rfl, rfl⟩
  have hbw := BW_on (BW_on hb1 hb2) hb3
  clear hb1 hb2 hb3 hT1 hT2
  have huv : Hid (u ≠ v → ¬ (u.toNat : Int) = (v.toNat : Int)) := Lib.hid (fun h e => h (UInt8.toNat_inj.1 (by omega)))
  have hrec := Lib.hid (fun w ht => receipt_any t w (by omega) ht)
  have Hsh := Lib.hid (sha_IsH (65 :: bysN t))
  have hl32 : (byt (sha (65 :: bysN t))).size = 32 := by rw [byt_size]; exact Hsh.out.1
  generalize byt (sha (65 :: bysN t)) = R at *
  rcases ans t with h | ⟨x, hx, h⟩ | ⟨h1, h2⟩
  · subst h
    by_cases hc : u = v
    · subst hc
      go_wp2_with (first | (go_at_call 18; refine (result_done _).mono ?_; rintro e w' ⟨rfl, rfl⟩) | (go_at_call 22; refine (done_any _).mono ?_; rintro e w' ⟨rfl, rfl⟩) | (go_at_call 23; refine (hrec.out _ (Lib.hid hT3)).mono ?_; rintro e w9 ⟨rfl, hb9⟩))
      go_ret
      exact ⟨by first | rfl | simp, BW_on hbw hb9⟩
    · have hci := huv.out hc
      have hc1 : (u == v) = false := by simpa using hc
      have hc2 : ((u.toNat : Int) == (v.toNat : Int)) = false := by simpa using hci
      clear huv
      go_wp2_with (first | (go_at_call 18; refine (result_done _).mono ?_; rintro e w' ⟨rfl, rfl⟩) | (go_at_call 22; refine (done_any _).mono ?_; rintro e w' ⟨rfl, rfl⟩) | (go_at_call 23; refine (hrec.out _ (Lib.hid hT3)).mono ?_; rintro e w9 ⟨rfl, hb9⟩))
      go_ret
      exact ⟨by first | rfl | simp, BW_on hbw hb9⟩
  · subst h
    have hxl := x.toNat_lt
    have hx0 : ¬ (x.toNat : Int) = 0 := by omega
    by_cases hc : u = v
    · subst hc
      go_wp2_with (first | (go_at_call 18; refine (result_fail x hx _).mono ?_; rintro e w' ⟨rfl, rfl⟩) | (go_at_call 22; refine (done_any _).mono ?_; rintro e w' ⟨rfl, rfl⟩) | (go_at_call 23; refine (hrec.out _ (Lib.hid hT3)).mono ?_; rintro e w9 ⟨rfl, hb9⟩) | (go_at_call 20; refine (failed_u x _).mono ?_; rintro e w10 ⟨rfl, hb10⟩))
      go_ret
      exact ⟨by first | rfl | (simp <;> omega), BW_on (BW_on hbw hb9) hb10⟩
    · have hci := huv.out hc
      have hc1 : (u == v) = false := by simpa using hc
      have hc2 : ((u.toNat : Int) == (v.toNat : Int)) = false := by simpa using hci
      clear huv
      go_wp2_with (first | (go_at_call 18; refine (result_fail x hx _).mono ?_; rintro e w' ⟨rfl, rfl⟩) | (go_at_call 22; refine (done_any _).mono ?_; rintro e w' ⟨rfl, rfl⟩) | (go_at_call 23; refine (hrec.out _ (Lib.hid hT3)).mono ?_; rintro e w9 ⟨rfl, hb9⟩) | (go_at_call 20; refine (failed_u x _).mono ?_; rintro e w10 ⟨rfl, hb10⟩))
      go_ret
      exact ⟨by first | rfl | (simp <;> omega), BW_on (BW_on hbw hb9) hb10⟩
  · have e1 := str_neq [43] (by decide +kernel) h1
    have hrn := Lib.hid (result_none t h1 h2)
    clear h1 h2
    by_cases hc : u = v
    · subst hc
      go_wp2_with (first | (go_at_call 18; refine (hrn.out _).mono ?_; rintro e w' ⟨rfl, rfl⟩) | (go_at_call 22; refine (done_any _).mono ?_; rintro e w' ⟨rfl, rfl⟩) | (go_at_call 23; refine (hrec.out _ (Lib.hid hT3)).mono ?_; rintro e w9 ⟨rfl, hb9⟩))
      go_ret
      exact ⟨by first | rfl | simp, BW_on hbw hb9⟩
    · have hci := huv.out hc
      have hc1 : (u == v) = false := by simpa using hc
      have hc2 : ((u.toNat : Int) == (v.toNat : Int)) = false := by simpa using hci
      clear huv
      go_wp2_with (first | (go_at_call 18; refine (hrn.out _).mono ?_; rintro e w' ⟨rfl, rfl⟩) | (go_at_call 22; refine (done_any _).mono ?_; rintro e w' ⟨rfl, rfl⟩) | (go_at_call 23; refine (hrec.out _ (Lib.hid hT3)).mono ?_; rintro e w9 ⟨rfl, hb9⟩))
      go_ret
      exact ⟨by first | rfl | simp, BW_on hbw hb9⟩
end Go.Proofs.YtkmdjnjpmhbhmaaDoor

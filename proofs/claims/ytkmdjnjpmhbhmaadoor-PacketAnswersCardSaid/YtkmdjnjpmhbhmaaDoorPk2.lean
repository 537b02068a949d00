/- Contracts of layer 13 (packet): any answer's result; a receipt. -/
import Derived.Test.YtkmdjnjpmhbhmaaDoorPk1
import Derived.Test.YtkmdjnjpmhbhmaaDoorHNil
namespace Go.Proofs.YtkmdjnjpmhbhmaaDoor
open Go.RowKit
attribute [local go_sem ↓] Go.wp_at_zero Go.wp_at_succ
theorem short13_any (s : ByteArray) (n : Nat) (w : World) : Calls Tryd.prog 17 #[.string s, .int .i64 (n : Int)] w fun e w' => e = .returned (.string (shN s n)) ∧ w = w' := by
  by_cases h : n < s.size
  · have e : shN s n = s.extract 0 n := if_pos h
    have h1 : (n : Int) < (s.size : Int) := by omega
    have h2 : (n : Int) ≤ (s.size : Int) := by omega
    rw [e]
    clear h e
    go_enter Tryd.func17, Tryd.ntmps17
    go_wp2_with fail
    go_ret
    exact ⟨by first | rfl | simp, rfl⟩
  · have e : shN s n = s := if_neg h
    have h1 : ¬ (n : Int) < (s.size : Int) := by omega
    rw [e]
    clear h e
    go_enter Tryd.func17, Tryd.ntmps17
    go_wp2_with fail
    go_ret
    exact ⟨rfl, rfl⟩
/-- A fact that no tactic looks into. -/
structure Bx' (p : Prop) : Prop where
  out : p
theorem strs2 (w : World) (s1 s2 : ByteArray) : Strs (w.alloc (.cells #[.string s1, .string s2] 9)) (.slice (some ⟨w.heap.size, 0, none⟩) 2 2) [s1, s2] := ⟨_, 2, rfl, fun _ => ⟨_, _, rfl, fun i hi => by
    have : i = 0 ∨ i = 1 := by simp at hi; omega
    rcases this with rfl | rfl <;> (rw [(blk1 w 9 #[.string s1, .string s2]).cell]; rfl)⟩⟩
theorem receipt_any (s : ByteArray) (w : World) (hs : s.size ≤ 1000000) (ht : Hid (Tabs w)) :
    Calls Tryd.prog 23 #[.string s] w fun e w' => e = .returned (.string (byt (sha (65 :: bysN s)))) ∧ Below w.heap.size w w' := by
  go_enter Tryd.func23, Tryd.ntmps23
  have hall : allB [⟨#[65]⟩, s] = 65 :: bysN s := by
    show [65] ++ (bysN s ++ []) = _
    rw [List.append_nil]
    rfl
  go_wp2_with fail
  refine (hof_any _ [⟨#[65]⟩, s] _ (Lib.hid (strs2 _ _ _)) (Lib.hid (ht.out.on (BW_alloc (BW_refl _) _))) (by rw [hall, List.length_cons, bysN_len]; omega) (by show 2 ≤ 9223372036854775807; decide)).mono ?_
  rintro e w2 ⟨rfl, hb2⟩
  rw [hall, show shaV (65 :: bysN s) = .agg (U8s (sha (65 :: bysN s))).toArray from rfl]
  have Hsh := Lib.hid (sha_IsH (65 :: bysN s))
  generalize hL : sha (65 :: bysN s) = L at *
  have HL := Bx'.mk hL
  clear hL hall
  go_wp2_with fail
  refine (text_any L Hsh.out _).mono ?_
  rintro e w3 ⟨rfl, hb3⟩
  have hbf := BW_on (BW_on (BW_alloc (BW_refl w) (.cells #[.string ⟨#[65]⟩, .string s] 9)) hb2) hb3
  go_wp2_with fail
  go_ret
  exact ⟨by rw [HL.out]; rfl, hbf⟩
end Go.Proofs.YtkmdjnjpmhbhmaaDoor

/- Contracts of layer 8 (dict): where a key is. -/
import Derived.Test.YtkahnobignaccaaRows
import Derived.Test.YtkahnobignaccaaKitC
import Derived.Test.YtkahnobignaccaaDe
import Derived.Test.YtkahnobignaccaaShelf
import Derived.WalkKit
import Derived.WalkSpells
import Derived.WalkLawsBesides
import Derived.Deep.QuietTactic
import Derived.BigQuiet
import Derived.BigRegion
import Derived.Deep.DrawnRows
namespace Go.Proofs.Ytkahnobignaccaa
open Go.RowKit
attribute [local go_sem ↓] Go.wp_at_zero Go.wp_at_succ
def cmpK (a b : ByteArray) : Int := if klt a b then -1 else if a = b then 0 else 1
theorem compareBytes_list : ∀ (x y : List UInt8), Lib.compareBytes x y = if x < y then -1 else if x = y then 0 else 1
  | [], [] => by simp [Lib.compareBytes]
  | _ :: _, [] => by simp [Lib.compareBytes]
  | [], _ :: _ => by simp [Lib.compareBytes]
  | a :: x, b :: y => by
    rw [Lib.compareBytes, compareBytes_list x y]
    simp only [List.cons_lt_cons_iff, List.cons.injEq]
    by_cases h1 : a < b
    · simp [h1]
    · by_cases h2 : b < a
      · have h3 : a ≠ b := by rintro rfl; exact h1 h2
        simp [h1, h2, h3]
      · have h3 : a = b := by
          apply UInt8.toNat_inj.1
          rw [UInt8.lt_iff_toNat_lt] at h1 h2
          omega
        simp [h3]
theorem compareBytes_eq (a b : ByteArray) : Lib.compareBytes a.data.toList b.data.toList = cmpK a b := by
  rw [compareBytes_list]
  unfold cmpK
  by_cases h : klt a b
  · rw [if_pos (show a.data.toList < b.data.toList from h), if_pos h]
  · rw [if_neg (show ¬ a.data.toList < b.data.toList from h), if_neg h]
    by_cases h2 : a = b
    · rw [if_pos (by rw [h2]), if_pos h2]
    · rw [if_neg (show ¬ a.data.toList = b.data.toList from fun e => h2 (kl_inj e)), if_neg h2]
theorem cmpK_lt {a b : ByteArray} (h : klt a b) : cmpK a b = -1 := if_pos h
theorem cmpK_ge {a b : ByteArray} (h : ¬ klt a b) : 0 ≤ cmpK a b ∧ (cmpK a b = 0 ↔ a = b) := by
  unfold cmpK
  rw [if_neg h]
  by_cases h2 : a = b
  · rw [if_pos h2]; simp [h2]
  · rw [if_neg h2]; simp [h2]
/-- Entries lie at a place of memory. -/
def EntC (w : World) (g off : Nat) (E : List Ent) : Prop := ∀ i (hi : i < E.length), w.cell? ⟨g, off + i * 2, none⟩ = some (.string E[i].1) ∧ w.cell? ⟨g, off + i * 2 + 1, none⟩ = some (.string E[i].2)
theorem EntC.on {w w' : World} {g off : Nat} {E : List Ent} (h : EntC w g off E) (hb : Below w.heap.size w w') : EntC w' g off E :=
  fun i hi => ⟨BW_cell hb (h i hi).1, BW_cell hb (h i hi).2⟩
/-- A slice that holds entries. -/
def Ents (w : World) (v : Value) (E : List Ent) : Prop :=
  (E = [] ∧ ∃ q cap, v = .slice q 0 cap ∧ cap ≤ 9223372036854775807) ∨ (0 < E.length ∧ ∃ g off cap, v = .slice (some ⟨g, off, none⟩) E.length cap ∧ E.length ≤ cap ∧ cap ≤ 9223372036854775807 ∧ EntC w g off E)
theorem Ents.on {w w' : World} {v : Value} {E : List Ent} (h : Ents w v E) (hb : Below w.heap.size w w') : Ents w' v E := by
  rcases h with h | ⟨h0, g, off, cap, h1, h2, h3, h4⟩
  · exact .inl h
  · exact .inr ⟨h0, g, off, cap, h1, h2, h3, h4.on hb⟩
set_option maxHeartbeats 400000 in
theorem findC_any (k0 v0 k : ByteArray) (w : World) :
    Calls Try.prog 36 #[.agg #[.string k0, .string v0], .string k] w fun e w' => e = .returned (.int .i64 (cmpK k0 k)) ∧ Below w.heap.size w w' := by
  go_enter Try.func36, Try.ntmps36
  go_wp2_with fail
  refine (Try.strings_Compare _ _ _).mono ?_
  rintro e w1 ⟨rfl, rfl⟩
  rw [compareBytes_eq]
  go_wp2_with fail
  go_ret
  exact ⟨rfl, BW_alloc (Below.refl _ _) _⟩
set_option maxHeartbeats 1000000 in
theorem bsf_any (v : Value) (E : List Ent) (k : ByteArray) (w : World) (hv : Ents w v E) (hs : Srt E) (hl : E.length ≤ 1000000) :
    Calls Try.prog 35 #[v, .string k, .func (.func 36) #[] #[]] w fun e w' => e = .returned (.tuple #[.int .i64 (pos E k : Int), .bool (hasK E k)]) ∧ Below w.heap.size w w' := by
  have hp := pos_le E k
  have Hs := Lib.hid hs
  rcases hv with ⟨rfl, q, cap, rfl, _⟩ | ⟨h0, g, off, cap, rfl, hc1, hc2, hent⟩
  · have hpos : pos [] k = 0 := rfl
    have hhas : hasK [] k = false := rfl
    have Hpos := Lib.hid hpos
    have Hhas := Lib.hid hhas
    clear hpos hhas hp hs hl
    go_enter Try.func35, Try.ntmps35
    go_wp2_with fail
    go_loopw [9, 10] (fun i j wr => i = .int .i64 0 ∧ j = .int .i64 0 ∧ Below w.heap.size w wr) (fun _ _ _ => 0)
    case atStart => exact ⟨rfl, rfl, Below.refl _ _⟩
    case round =>
      obtain ⟨rfl, rfl, hb⟩ := hrel
      go_wp2_with fail
      go_ret2
      exact ⟨by rw [Hpos.out, Hhas.out]; rfl, hb⟩
  · have Hent := Lib.hid hent
    have hhas := has_iff hs k
    have Hhas := Lib.hid hhas
    clear hent hhas hs
    go_enter Try.func35, Try.ntmps35
    go_wp2_with fail
    go_loopw [9, 10] (fun i j wr => ∃ a b : Nat, a ≤ pos E k ∧ pos E k ≤ b ∧ b ≤ E.length ∧ i = .int .i64 (a : Int) ∧ j = .int .i64 (b : Int) ∧ Below w.heap.size w wr) (fun i j _ => (intOf j - intOf i).toNat)
    case atStart => exact ⟨0, E.length, by omega, by omega, Nat.le_refl _, rfl, rfl, Below.refl _ _⟩
    case round =>
      obtain ⟨a, b, ha, hpb, hbn, rfl, rfl, hb⟩ := hrel
      by_cases hab : a < b
      · have hah : a ≤ (a + b) / 2 := by omega
        have hhb : (a + b) / 2 < b := by omega
        have hlt : (a + b) / 2 < E.length := by omega
        have hc := (Hent.out.on hb) ((a + b) / 2) hlt
        have hcall := fun w => findC_any E[(a + b) / 2].1 E[(a + b) / 2].2 k w
        have hkey : (klt E[(a + b) / 2].1 k ∧ (a + b) / 2 < pos E k) ∨ (¬ klt E[(a + b) / 2].1 k ∧ pos E k ≤ (a + b) / 2) := by
          rcases Nat.lt_or_ge ((a + b) / 2) (pos E k) with h | h
          · exact .inl ⟨pos_lt h hlt, h⟩
          · exact .inr ⟨pos_ge Hs.out h hlt, h⟩
        generalize E[(a + b) / 2].1 = k0 at *
        generalize E[(a + b) / 2].2 = v0 at *
        have Hcall := Lib.hid hcall
        clear hcall hlt
        rcases hkey with ⟨hk, hpp⟩ | ⟨hk, hpp⟩
        · rw [cmpK_lt hk] at Hcall
          clear hk
          go_wp2_with fail
          refine (Hcall.out _).mono ?_
          rintro e w1 ⟨rfl, hb1⟩
          clear hc
          go_wp2_with fail
          go_roundw
          case rel => exact ⟨(a + b) / 2 + 1, b, by omega, hpb, hbn, by go_num, rfl, BW_on hb hb1⟩
          case measure => simp [intOf]; omega
        · have hz := (cmpK_ge hk).1
          generalize cmpK k0 k = cv at *
          clear hk
          have hz' : ¬ cv < 0 := by omega
          go_wp2_with fail
          refine (Hcall.out _).mono ?_
          rintro e w1 ⟨rfl, hb1⟩
          clear hc
          go_wp2_with fail
          go_roundw
          case rel => exact ⟨a, (a + b) / 2, ha, hpp, by omega, rfl, by go_num, BW_on hb hb1⟩
          case measure => simp [intOf]; omega
      · obtain rfl : a = pos E k := by omega
        obtain rfl : b = pos E k := by omega
        by_cases hpn : pos E k < E.length
        · have hc := (Hent.out.on hb) (pos E k) hpn
          have hcall := fun w => findC_any E[pos E k].1 E[pos E k].2 k w
          have hge := cmpK_ge (pos_ge Hs.out (Nat.le_refl _) hpn)
          have hhk : hasK E k = decide (cmpK E[pos E k].1 k = 0) := by
            rw [Bool.eq_iff_iff, decide_eq_true_eq, hge.2]
            constructor
            · intro h; obtain ⟨_, h2⟩ := Hhas.out.1 h; exact h2
            · intro h; exact Hhas.out.2 ⟨hpn, h⟩
          generalize E[pos E k].1 = k0 at *
          generalize E[pos E k].2 = v0 at *
          generalize cmpK k0 k = cv at *
          have Hcall := Lib.hid hcall
          have Hhk := Lib.hid hhk
          clear hcall hge hhk
          go_wp2_with fail
          refine (Hcall.out _).mono ?_
          rintro e w1 ⟨rfl, hb1⟩
          clear hc
          go_wp2_with fail
          go_ret2
          exact ⟨by rw [Hhk.out]; rfl, BW_on hb hb1⟩
        · have hhk : hasK E k = false := by
            cases h : hasK E k
            · rfl
            · obtain ⟨h1, _⟩ := Hhas.out.1 h; exact absurd h1 hpn
          have Hhk := Lib.hid hhk
          have hpn' : decide ((pos E k : Int) < (E.length : Int)) = false := by simp; omega
          clear hhk
          go_wp2_with fail
          go_ret2
          exact ⟨by rw [Hhk.out]; rfl, hb⟩
end Go.Proofs.Ytkahnobignaccaa

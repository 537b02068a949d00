/- D1, D2, D3, D4, D5, D6, D7, D8, D9, D10, D11, D12, D13, Df, Dg, Do in one text. -/
import Derived.Test.YtpcdgljcpacpiaaGreatDoorRows
import Derived.Test.YtpcdgljcpacpiaaGreatDoorKitC
import Derived.Test.YtpcdgljcpacpiaaGreatDoorDe
import Derived.Test.YtpcdgljcpacpiaaGreatDoorShelf
import Derived.WalkKit
import Derived.WalkSpells
import Derived.WalkLawsBesides
import Derived.Deep.QuietTactic
import Derived.BigQuiet
import Derived.BigRegion
import Derived.Deep.DrawnRows
import Derived.Deep.RegionLaw
import Derived.Laws.Externs
import Derived.Lib.Overlaps
import Derived.Lib.AppendZerosOnto
import Derived.Laws.StructEq
import Derived.Deep.RegionHeld
import Derived.Test.YtpcdgljcpacpiaaGreatDoorKitD
import Derived.Deep.RegionWith
import Derived.Deep.RegionHeld3
import Derived.Deep.Slices
import Derived.Laws.IdiomArrays
set_option maxRecDepth 20000
namespace Go.Proofs.YtpcdgljcpacpiaaGreatDoor
open Go.RowKit
attribute [local go_sem ↓] Go.wp_at_zero Go.wp_at_succ
def cmpK (a b : ByteArray) : Int := if klt a b then -1 else if a = b then 0 else 1
theorem compareBytes_list : ∀ (x y : List UInt8), Lib.compareBytes x y = if x < y then -1 else if x = y then 0 else 1
  | [], [] => by simp [Lib.compareBytes]
  | _ :: _, [] => by simp [Lib.compareBytes]
  | [], _ :: _ => by simp [Lib.compareBytes]
  | a :: x, b :: y => by
    rw [Lib.compareBytes, compareBytes_list x y]
    simp only [List.cons_lt_cons_iff, List.cons.injEq]
    by_cases h1 : a < b
    · simp [h1]
    · by_cases h2 : b < a
      · have h3 : a ≠ b := by rintro rfl; exact h1 h2
        simp [h1, h2, h3]
      · have h3 : a = b := by
          apply UInt8.toNat_inj.1
          rw [UInt8.lt_iff_toNat_lt] at h1 h2
          omega
        simp [h3]
theorem compareBytes_eq (a b : ByteArray) : Lib.compareBytes a.data.toList b.data.toList = cmpK a b := by
  rw [compareBytes_list]
  unfold cmpK
  by_cases h : klt a b
  · rw [if_pos (show a.data.toList < b.data.toList from h), if_pos h]
  · rw [if_neg (show ¬ a.data.toList < b.data.toList from h), if_neg h]
    by_cases h2 : a = b
    · rw [if_pos (by rw [h2]), if_pos h2]
    · rw [if_neg (show ¬ a.data.toList = b.data.toList from fun e => h2 (kl_inj e)), if_neg h2]
theorem cmpK_lt {a b : ByteArray} (h : klt a b) : cmpK a b = -1 := if_pos h
theorem cmpK_ge {a b : ByteArray} (h : ¬ klt a b) : 0 ≤ cmpK a b ∧ (cmpK a b = 0 ↔ a = b) := by
  unfold cmpK
  rw [if_neg h]
  by_cases h2 : a = b
  · rw [if_pos h2]; simp [h2]
  · rw [if_neg h2]; simp [h2]
/-- Entries lie at a place of memory. -/
def EntC (w : World) (g off : Nat) (E : List Ent) : Prop := ∀ i (hi : i < E.length), w.cell? ⟨g, off + i * 2, none⟩ = some (.string E[i].1) ∧ w.cell? ⟨g, off + i * 2 + 1, none⟩ = some (.string E[i].2)
theorem EntC.on {w w' : World} {g off : Nat} {E : List Ent} (h : EntC w g off E) (hb : Below w.heap.size w w') : EntC w' g off E :=
  fun i hi => ⟨BW_cell hb (h i hi).1, BW_cell hb (h i hi).2⟩
/-- A slice that holds entries. -/
def Ents (w : World) (v : Value) (E : List Ent) : Prop :=
  (E = [] ∧ ∃ q cap, v = .slice q 0 cap ∧ cap ≤ 9223372036854775807) ∨ (0 < E.length ∧ ∃ g off cap, v = .slice (some ⟨g, off, none⟩) E.length cap ∧ E.length ≤ cap ∧ cap ≤ 9223372036854775807 ∧ EntC w g off E)
theorem Ents.on {w w' : World} {v : Value} {E : List Ent} (h : Ents w v E) (hb : Below w.heap.size w w') : Ents w' v E := by
  rcases h with h | ⟨h0, g, off, cap, h1, h2, h3, h4⟩
  · exact .inl h
  · exact .inr ⟨h0, g, off, cap, h1, h2, h3, h4.on hb⟩
set_option maxHeartbeats 400000 in
theorem findC_any (k0 v0 k : ByteArray) (w : World) :
    Calls Tryz.prog 82 #[.agg #[.string k0, .string v0], .string k] w fun e w' => e = .returned (.int .i64 (cmpK k0 k)) ∧ Below w.heap.size w w' := by
  go_enter Tryz.func82, Tryz.ntmps82
  go_wp2_with fail
  refine (Tryz.strings_Compare _ _ _).mono ?_
  rintro e w1 ⟨rfl, rfl⟩
  rw [compareBytes_eq]
  go_wp2_with fail
  go_ret
  exact ⟨rfl, BW_alloc (Below.refl _ _) _⟩
set_option maxHeartbeats 1000000 in
theorem bsf_any (v : Value) (E : List Ent) (k : ByteArray) (w : World) (hv : Ents w v E) (hs : Srt E) (hl : E.length ≤ 1000000) :
    Calls Tryz.prog 81 #[v, .string k, .func (.func 82) #[] #[]] w fun e w' => e = .returned (.tuple #[.int .i64 (pos E k : Int), .bool (hasK E k)]) ∧ Below w.heap.size w w' := by
  have hp := pos_le E k
  have Hs := Lib.hid hs
  rcases hv with ⟨rfl, q, cap, rfl, _⟩ | ⟨h0, g, off, cap, rfl, hc1, hc2, hent⟩
  · have hpos : pos [] k = 0 := rfl
    have hhas : hasK [] k = false := rfl
    have Hpos := Lib.hid hpos
    have Hhas := Lib.hid hhas
    clear hpos hhas hp hs hl
    go_enter Tryz.func81, Tryz.ntmps81
    go_wp2_with fail
    go_loopw [9, 10] (fun i j wr => i = .int .i64 0 ∧ j = .int .i64 0 ∧ Below w.heap.size w wr) (fun _ _ _ => 0)
    case atStart => exact ⟨rfl, rfl, Below.refl _ _⟩
    case round =>
      obtain ⟨rfl, rfl, hb⟩ := hrel
      go_wp2_with fail
      go_ret2
      exact ⟨by rw [Hpos.out, Hhas.out]; rfl, hb⟩
  · have Hent := Lib.hid hent
    have hhas := has_iff hs k
    have Hhas := Lib.hid hhas
    clear hent hhas hs
    go_enter Tryz.func81, Tryz.ntmps81
    go_wp2_with fail
    go_loopw [9, 10] (fun i j wr => ∃ a b : Nat, a ≤ pos E k ∧ pos E k ≤ b ∧ b ≤ E.length ∧ i = .int .i64 (a : Int) ∧ j = .int .i64 (b : Int) ∧ Below w.heap.size w wr) (fun i j _ => (intOf j - intOf i).toNat)
    case atStart => exact ⟨0, E.length, by omega, by omega, Nat.le_refl _, rfl, rfl, Below.refl _ _⟩
    case round =>
      obtain ⟨a, b, ha, hpb, hbn, rfl, rfl, hb⟩ := hrel
      by_cases hab : a < b
      · have hah : a ≤ (a + b) / 2 := by omega
        have hhb : (a + b) / 2 < b := by omega
        have hlt : (a + b) / 2 < E.length := by omega
        have hc := (Hent.out.on hb) ((a + b) / 2) hlt
        have hcall := fun w => findC_any E[(a + b) / 2].1 E[(a + b) / 2].2 k w
        have hkey : (klt E[(a + b) / 2].1 k ∧ (a + b) / 2 < pos E k) ∨ (¬ klt E[(a + b) / 2].1 k ∧ pos E k ≤ (a + b) / 2) := by
          rcases Nat.lt_or_ge ((a + b) / 2) (pos E k) with h | h
          · exact .inl ⟨pos_lt h hlt, h⟩
          · exact .inr ⟨pos_ge Hs.out h hlt, h⟩
        generalize E[(a + b) / 2].1 = k0 at *
        generalize E[(a + b) / 2].2 = v0 at *
        have Hcall := Lib.hid hcall
        clear hcall hlt
        rcases hkey with ⟨hk, hpp⟩ | ⟨hk, hpp⟩
        · rw [cmpK_lt hk] at Hcall
          clear hk
          go_wp2_with fail
          refine (Hcall.out _).mono ?_
          rintro e w1 ⟨rfl, hb1⟩
          clear hc
          go_wp2_with fail
          go_roundw
          case rel => exact ⟨(a + b) / 2 + 1, b, by omega, hpb, hbn, by go_num, rfl, BW_on hb hb1⟩
          case measure => simp [intOf]; omega
        · have hz := (cmpK_ge hk).1
          generalize cmpK k0 k = cv at *
          clear hk
          have hz' : ¬ cv < 0 := by omega
          go_wp2_with fail
          refine (Hcall.out _).mono ?_
          rintro e w1 ⟨rfl, hb1⟩
          clear hc
          go_wp2_with fail
          go_roundw
          case rel => exact ⟨a, (a + b) / 2, ha, hpp, by omega, rfl, by go_num, BW_on hb hb1⟩
          case measure => simp [intOf]; omega
      · obtain rfl : a = pos E k := by omega
        obtain rfl : b = pos E k := by omega
        by_cases hpn : pos E k < E.length
        · have hc := (Hent.out.on hb) (pos E k) hpn
          have hcall := fun w => findC_any E[pos E k].1 E[pos E k].2 k w
          have hge := cmpK_ge (pos_ge Hs.out (Nat.le_refl _) hpn)
          have hhk : hasK E k = decide (cmpK E[pos E k].1 k = 0) := by
            rw [Bool.eq_iff_iff, decide_eq_true_eq, hge.2]
            constructor
            · intro h; obtain ⟨_, h2⟩ := Hhas.out.1 h; exact h2
            · intro h; exact Hhas.out.2 ⟨hpn, h⟩
          generalize E[pos E k].1 = k0 at *
          generalize E[pos E k].2 = v0 at *
          generalize cmpK k0 k = cv at *
          have Hcall := Lib.hid hcall
          have Hhk := Lib.hid hhk
          clear hcall hge hhk
          go_wp2_with fail
          refine (Hcall.out _).mono ?_
          rintro e w1 ⟨rfl, hb1⟩
          clear hc
          go_wp2_with fail
          go_ret2
          exact ⟨by rw [Hhk.out]; rfl, BW_on hb hb1⟩
        · have hhk : hasK E k = false := by
            cases h : hasK E k
            · rfl
            · obtain ⟨h1, _⟩ := Hhas.out.1 h; exact absurd h1 hpn
          have Hhk := Lib.hid hhk
          have hpn' : decide ((pos E k : Int) < (E.length : Int)) = false := by simp; omega
          clear hhk
          go_wp2_with fail
          go_ret2
          exact ⟨by rw [Hhk.out]; rfl, hb⟩
end Go.Proofs.YtpcdgljcpacpiaaGreatDoor
namespace Go.Proofs.YtpcdgljcpacpiaaGreatDoor
open Go.RowKit
attribute [local go_sem ↓] Go.wp_at_zero Go.wp_at_succ
def entV (E : List Ent) : List Value := E.flatMap fun x => [.string x.1, .string x.2]
theorem entV_cons (x : Ent) (E : List Ent) : entV (x :: E) = .string x.1 :: .string x.2 :: entV E := rfl
theorem entV_app (E F : List Ent) : entV (E ++ F) = entV E ++ entV F := by simp [entV]
theorem entV_len (E : List Ent) : (entV E).length = E.length * 2 := by
  induction E with
  | nil => rfl
  | cons x E ih => rw [entV_cons]; simp [ih]; omega
theorem entV_one (E : List Ent) : ∀ v ∈ entV E, v.oneCell' = true := by
  intro v hv
  simp [entV] at hv
  obtain ⟨a, b, _, rfl | rfl⟩ := hv <;> rfl
theorem entV_get (E : List Ent) (i : Nat) (hi : i < E.length) : (entV E)[i * 2]? = some (.string E[i].1) ∧ (entV E)[i * 2 + 1]? = some (.string E[i].2) := by
  induction E generalizing i with
  | nil => simp at hi
  | cons x E ih =>
    rw [entV_cons]
    cases i with
    | zero => exact ⟨rfl, rfl⟩
    | succ i =>
      have := ih i (by simpa using hi)
      rw [show (i + 1) * 2 = i * 2 + 1 + 1 by omega]
      simpa using this
theorem EntC.cells {w : World} {g off : Nat} {E : List Ent} (h : EntC w g off E) (j : Nat) (u : Value) (hj : (entV E)[j]? = some u) : w.cell? ⟨g, off + j, none⟩ = some u := by
  have hl : j < E.length * 2 := by rw [← entV_len]; exact (List.getElem?_eq_some_iff.1 hj).1
  have h2 := entV_get E (j / 2) (by omega)
  have h3 := h (j / 2) (by omega)
  rcases Nat.mod_two_eq_zero_or_one j with hm | hm
  · rw [show j / 2 * 2 = j by omega] at h2 h3
    rw [hj] at h2
    rw [h3.1, ← h2.1]
  · rw [show j / 2 * 2 + 1 = j by omega] at h2
    rw [Nat.add_assoc, show j / 2 * 2 + 1 = j by omega] at h3
    rw [hj] at h2
    rw [h3.2, ← h2.2]
theorem EntC.of {w : World} {g off : Nat} {E : List Ent} (h : ∀ j u, (entV E)[j]? = some u → w.cell? ⟨g, off + j, none⟩ = some u) : EntC w g off E := by
  intro i hi
  have h2 := entV_get E i hi
  exact ⟨h _ _ h2.1, by rw [Nat.add_assoc]; exact h _ _ h2.2⟩
theorem own_ents {w : World} {base : Nat} {v : Value} {E : List Ent} (h : w.ownsRow base 62 2 v E.length (entV E)) : Ents w v E := by
  rcases h.2 with ⟨rfl, h0⟩ | ⟨g, cap, cur, rfl, hg, hh, hnc, hcap, hsz, ht⟩
  · exact .inl ⟨List.eq_nil_of_length_eq_zero h0, none, 0, rfl, by decide⟩
  · rcases Nat.eq_zero_or_pos E.length with h0 | h0
    · exact .inl ⟨List.eq_nil_of_length_eq_zero h0, _, cap, by rw [h0], hcap⟩
    · refine .inr ⟨h0, g, 0, cap, rfl, hnc, hcap, EntC.of fun j u hj => ?_⟩
      have hjl : j < E.length * 2 := by rw [← entV_len]; exact (List.getElem?_eq_some_iff.1 hj).1
      rw [Nat.zero_add, World.ownsRow.cellAt h j hjl]
      exact hj
theorem Ents.len {w : World} {v : Value} {E : List Ent} (h : Ents w v E) : ∃ q cap, v = .slice q E.length cap := by
  rcases h with ⟨rfl, q, cap, rfl, _⟩ | ⟨_, g, off, cap, rfl, _⟩
  · exact ⟨q, cap, rfl⟩
  · exact ⟨_, cap, rfl⟩
theorem infoE : (Tryz.prog.info? 62).map (fun i => (i.zero, i.size, i.bytes)) = some (some (.agg #[.string ⟨#[]⟩, .string ⟨#[]⟩]), 2, 32) := by kernel_rfl
set_option maxHeartbeats 400000 in
theorem clone_any (v : Value) (E : List Ent) (w : World) (hv : Ents w v E) (hl : E.length ≤ 1000000) :
    Calls Tryz.prog 46 #[v] w fun e w' => ∃ v', e = .returned v' ∧ w'.ownsRow w.heap.size 62 2 v' E.length (entV E) ∧ Below w.heap.size w w' := by
  obtain ⟨i0, hi0, hz0, hz1, hz2⟩ := info_parts infoE
  have hown : (w.alloc (.cells #[] 62)).ownsRow w.heap.size 62 2 (.slice (some ⟨w.heap.size, 0, none⟩) 0 0) 0 [] :=
    ⟨rfl, .inr ⟨w.heap.size, 0, #[], rfl, Nat.le_refl _, Blk.new w 62 #[], Nat.le_refl _, Nat.zero_le _, rfl, rfl⟩⟩
  rcases hv with ⟨rfl, q, cap, rfl, hc⟩ | ⟨h0, g, off, cap, rfl, hc1, hc2, hent⟩
  · rcases q with _ | a
    · have hn : ∀ w, (binOp .eql 24 (.slice none 0 cap) (.slice none 0 0)).run Tryz.prog w = .ok (.bool true) w := fun w => Lib.run_eql_slice_nil w 24 62 none 0 cap 0 0 Tryz.underlying24
      go_enter Tryz.func46, Tryz.ntmps46
      go_wp2_with fail
      go_ret
      exact ⟨_, rfl, World.ownsRow_nil _ _ _ _, Below.refl _ _⟩
    · have hn : ∀ w, (binOp .eql 24 (.slice (some a) 0 cap) (.slice none 0 0)).run Tryz.prog w = .ok (.bool false) w := fun w => Lib.run_eql_slice_nil w 24 62 (some a) 0 cap 0 0 Tryz.underlying24
      have Hown := Lib.hid hown
      clear hown
      go_enter Tryz.func46, Tryz.ntmps46
      go_wp2_with (at_builtin; refine wpList_append_own _ rfl _ _ 24 rfl w.heap.size 62 i0 (.agg #[.string ⟨#[]⟩, .string ⟨#[]⟩]) 2 32 Tryz.underlying24 hi0 hz0 hz1 hz2 rfl (by decide) _ _ _ rfl Hown.out a 0 cap [] rfl rfl (fun j u hj => by simp at hj) (fun u hu => by simp at hu) (by unfold maxLen; omega) (by omega) (by simp) ?_; intro v' w' hown' hg _)
      have hb : Below w.heap.size w w' := (BW_alloc (Below.refl _ _) _).grown hg (by simp) (fun k hk => (Hown.out.lt k hk).1)
      go_ret
      exact ⟨_, rfl, hown', hb⟩
  · have hn : ∀ w, (binOp .eql 24 (.slice (some ⟨g, off, none⟩) E.length cap) (.slice none 0 0)).run Tryz.prog w = .ok (.bool false) w := fun w => Lib.run_eql_slice_nil w 24 62 (some ⟨g, off, none⟩) E.length cap 0 0 Tryz.underlying24
    have Hown := Lib.hid hown
    have hent2 : ∀ j u, (entV E)[j]? = some u → (w.alloc (.cells #[] 62)).cell? ((⟨g, off, none⟩ : Addr).add j) = some u := fun j u hj => by
      rw [addr_add]
      exact BW_cell (BW_alloc (Below.refl _ _) _) (hent.cells j u hj)
    have Hent := Lib.hid hent2
    clear hown hent hent2
    go_enter Tryz.func46, Tryz.ntmps46
    go_wp2_with (at_builtin; refine wpList_append_own _ rfl _ _ 24 rfl w.heap.size 62 i0 (.agg #[.string ⟨#[]⟩, .string ⟨#[]⟩]) 2 32 Tryz.underlying24 hi0 hz0 hz1 hz2 rfl (by decide) _ _ _ rfl Hown.out ⟨g, off, none⟩ E.length cap (entV E) rfl (entV_len E) Hent.out (entV_one E) (by unfold maxLen; omega) (by omega) (by simp) ?_; intro v' w' hown' hg _)
    have hb : Below w.heap.size w w' := (BW_alloc (Below.refl _ _) _).grown hg (by simp) (fun k hk => (Hown.out.lt k hk).1)
    go_ret
    exact ⟨_, rfl, by simpa using hown', hb⟩
set_option maxHeartbeats 400000 in
theorem find_any (v : Value) (E : List Ent) (k : ByteArray) (w : World) (hv : Ents w v E) (hs : Srt E) (hl : E.length ≤ 1000000) :
    Calls Tryz.prog 62 #[.agg #[v], .string k] w fun e w' => e = .returned (.tuple #[.int .i64 (pos E k : Int), .bool (hasK E k)]) ∧ Below w.heap.size w w' := by
  have Hv := Lib.hid hv
  have Hs := Lib.hid hs
  clear hv hs
  go_enter Tryz.func62, Tryz.ntmps62
  go_wp2_with fail
  refine (bsf_any v E k _ (Hv.out.on (BW_alloc (Below.refl _ _) _)) Hs.out hl).mono ?_
  rintro e w1 ⟨rfl, hb1⟩
  go_wp2_with fail
  go_ret2
  exact ⟨rfl, BW_on (BW_alloc (Below.refl _ _) _) hb1⟩
def gv (E : List Ent) (k : ByteArray) : ByteArray := (getL E k).getD ⟨#[]⟩
set_option maxHeartbeats 400000 in
theorem get_any (v : Value) (E : List Ent) (k : ByteArray) (w : World) (hv : Ents w v E) (hs : Srt E) (hl : E.length ≤ 1000000) :
    Calls Tryz.prog 110 #[.agg #[v], .string k] w fun e w' => e = .returned (.tuple #[.string (gv E k), .bool (hasK E k)]) ∧ Below w.heap.size w w' := by
  have hfind := fun w hv => find_any v E k w hv hs hl
  have Hfind := Lib.hid hfind
  have Hv := Lib.hid hv
  have Hs := Lib.hid hs
  clear hv hs hfind
  cases hh : hasK E k with
  | false =>
    have hg : gv E k = ⟨#[]⟩ := by unfold gv; rw [get_none hh]; rfl
    rw [hg]
    rw [hh] at Hfind
    clear hh hg
    go_enter Tryz.func110, Tryz.ntmps110
    go_wp2_with fail
    refine (Hfind.out _ (Hv.out.on (BW_alloc (Below.refl _ _) _))).mono ?_
    rintro e w1 ⟨rfl, hb1⟩
    go_wp2_with fail
    go_ret2
    exact ⟨rfl, BW_on (BW_alloc (Below.refl _ _) _) hb1⟩
  | true =>
    obtain ⟨hp, he⟩ := (has_iff Hs.out k).1 hh
    have hg : gv E k = E[pos E k].2 := by unfold gv; rw [get_at hp he]; rfl
    rw [hg]
    rw [hh] at Hfind
    clear hh he
    rcases Hv.out with ⟨rfl, _⟩ | ⟨h0, g, off, cap, rfl, hc1, hc2, hent⟩
    · simp at hp
    have hcell := (hent (pos E k) hp).2
    clear hent hg
    have kb := Blk.new w 27 #[.slice (some ⟨g, off, none⟩) E.length cap]
    go_enter Tryz.func110, Tryz.ntmps110
    go_wp2_with fail
    refine (Hfind.out _ (Hv.out.on (BW_alloc (Below.refl _ _) _))).mono ?_
    rintro e w1 ⟨rfl, hb1⟩
    have hB := BW_on (BW_alloc (Below.refl w.heap.size w) (.cells #[.slice (some ⟨g, off, none⟩) E.length cap] 27)) hb1
    have hc := BW_cell hB hcell
    replace kb := kb.on hb1
    have cb := fun i => kb.cell i
    have hpi : (pos E k : Int) < (E.length : Int) := by omega
    clear hcell
    go_wp2_with fail
    go_ret2
    exact ⟨rfl, hB⟩
set_option maxHeartbeats 400000 in
theorem all_any (v : Value) (E : List Ent) (w : World) (hv : Ents w v E) (hl : E.length ≤ 1000000) :
    Calls Tryz.prog 17 #[.agg #[v]] w fun e w' => ∃ v', e = .returned v' ∧ w'.ownsRow w.heap.size 62 2 v' E.length (entV E) ∧ Below w.heap.size w w' := by
  have Hv := Lib.hid hv
  clear hv
  go_enter Tryz.func17, Tryz.ntmps17
  go_wp2_with fail
  refine (clone_any v E _ (Hv.out.on (BW_alloc (Below.refl _ _) _)) hl).mono ?_
  rintro e w1 ⟨v', rfl, hown, hb1⟩
  go_wp2_with fail
  go_ret
  exact ⟨_, rfl, own_mono hown (by simp), BW_on (BW_alloc (Below.refl _ _) _) hb1⟩
def atE (E : List Ent) (i : Int) : Ent := if 0 ≤ i then E.getD i.toNat (⟨#[]⟩, ⟨#[]⟩) else (⟨#[]⟩, ⟨#[]⟩)
end Go.Proofs.YtpcdgljcpacpiaaGreatDoor
namespace Go.Proofs.YtpcdgljcpacpiaaGreatDoor
open Go.RowKit
attribute [local go_sem ↓] Go.wp_at_zero Go.wp_at_succ
theorem own_row {w : World} {base : Nat} {e : TypeId} {size : Nat} {v : Value} {n : Nat} {xs : List Value} (h : w.ownsRow base e size v n xs) (hn : 0 < n) :
    ∃ g cap cur, v = .slice (some ⟨g, 0, none⟩) n cap ∧ base ≤ g ∧ Blk w g e (List.toArray cur) ∧ n ≤ cap ∧ cap ≤ 9223372036854775807 ∧ cur.length = cap * size ∧ cur.take (n * size) = xs := by
  rcases h.2 with ⟨rfl, rfl⟩ | ⟨g, cap, cur, rfl, hg, hh, hnc, hcap, hsz, ht⟩
  · omega
  · exact ⟨g, cap, cur.toList, rfl, hg, hh, hnc, hcap, by simpa using hsz, ht⟩
theorem own_mk {w : World} {base g n cap size : Nat} {e : TypeId} {cur xs : List Value} (hg : base ≤ g) (hk : Blk w g e cur.toArray) (hnc : n ≤ cap) (hcap : cap ≤ 9223372036854775807) (hsz : cur.length = cap * size) (ht : cur.take (n * size) = xs) :
    w.ownsRow base e size (.slice (some ⟨g, 0, none⟩) n cap) n xs := by
  refine ⟨?_, .inr ⟨g, cap, cur.toArray, rfl, hg, hk, hnc, hcap, by simpa using hsz, ht⟩⟩
  rw [← ht, List.length_take, hsz]
  exact Nat.min_eq_left (Nat.mul_le_mul_right _ hnc)
theorem entV_take (E : List Ent) (i : Nat) : entV (E.take i) = (entV E).take (i * 2) := by
  induction E generalizing i with
  | nil => simp [entV]
  | cons x E ih =>
    cases i with
    | zero => simp [entV]
    | succ i =>
      rw [List.take_succ_cons, entV_cons, entV_cons, ih, show (i + 1) * 2 = i * 2 + 1 + 1 by omega]
      simp
theorem entV_drop (E : List Ent) (i : Nat) : entV (E.drop i) = (entV E).drop (i * 2) := by
  induction E generalizing i with
  | nil => simp [entV]
  | cons x E ih =>
    cases i with
    | zero => simp
    | succ i =>
      rw [List.drop_succ_cons, entV_cons, ih, show (i + 1) * 2 = i * 2 + 1 + 1 by omega]
      simp
def zz : List Value := [.string ⟨#[]⟩, .string ⟨#[]⟩]
theorem take_entry {cur xs : List Value} {n j : Nat} {u : Value} (ht : cur.take n = xs) (h : xs[j]? = some u) : cur[j]? = some u := by
  have hl : j < xs.length := (List.getElem?_eq_some_iff.1 h).1
  rw [← ht] at h hl
  rw [List.getElem?_take] at h
  split at h
  · exact h
  · cases h
theorem zz_eq : (Builtin.zeroCells (Value.agg #[.string ⟨#[]⟩, .string ⟨#[]⟩]).cells 1).toList = zz := by
  simp [Builtin.zeroCells, Value.cells, zz]
  rfl
/-- What the row holds once an element is struck. -/
theorem struck (cur : List Value) (E : List Ent) (m cap i : Nat) (hn : E.length = m + 1) (hi : i ≤ m) (hnc : m + 1 ≤ cap) (hsz : cur.length = cap * 2) (ht : cur.take ((m + 1) * 2) = entV E) :
    (splice (splice cur (i * 2) (entV (E.drop (i + 1)))) (m * 2) zz).take (m * 2) = entV (E.take i ++ E.drop (i + 1)) := by
  have hl1 : (entV (E.drop (i + 1))).length = (m - i) * 2 := by rw [entV_len, List.length_drop, hn]; omega
  have hfit : i * 2 + (entV (E.drop (i + 1))).length ≤ cur.length := by rw [hl1]; omega
  have hfit2 : m * 2 + zz.length ≤ (splice cur (i * 2) (entV (E.drop (i + 1)))).length := by
    rw [length_splice _ _ _ hfit]; show m * 2 + 2 ≤ _; omega
  apply List.ext_getElem?
  intro j
  rw [List.getElem?_take]
  by_cases hj : j < m * 2
  · rw [if_pos hj, splice_get _ _ _ hfit2, if_pos hj, splice_get _ _ _ hfit, entV_app]
    have hlt : (entV (E.take i)).length = i * 2 := by rw [entV_len, List.length_take]; omega
    by_cases h1 : j < i * 2
    · rw [if_pos h1, List.getElem?_append_left (by omega), entV_take, List.getElem?_take_of_lt h1, ← ht, List.getElem?_take_of_lt (by omega)]
    · rw [if_neg h1, if_pos (by omega), List.getElem?_append_right (by omega), hlt]
  · rw [if_neg hj]
    rw [List.getElem?_eq_none]
    rw [entV_len, List.length_append, List.length_take, List.length_drop]
    omega
set_option maxHeartbeats 1000000 in
theorem delete_one (base g m cap i : Nat) (E : List Ent) (w : World) (hn : E.length = m + 1) (hi : i ≤ m) (hn2 : m ≤ 1000000) (hown : w.ownsRow base 62 2 (.slice (some ⟨g, 0, none⟩) (m + 1) cap) (m + 1) (entV E)) :
    Calls Tryz.prog 112 #[.slice (some ⟨g, 0, none⟩) (m + 1) cap, .int .i64 (i : Int), .int .i64 ((i : Int) + 1)] w fun e w' => e = .returned (.slice (some ⟨g, 0, none⟩) m cap) ∧ w'.ownsRow base 62 2 (.slice (some ⟨g, 0, none⟩) m cap) m (entV (E.take i ++ E.drop (i + 1))) ∧ Below base w w' := by
  obtain ⟨i0, hi0, hz0, hz1, hz2⟩ := info_parts infoE
  obtain ⟨g', cap', cur, hv, hg, hk, hnc, hcap, hsz, ht⟩ := own_row hown (by omega)
  simp only [Value.slice.injEq, Option.some.injEq, Addr.mk.injEq, and_true, true_and] at hv
  obtain ⟨rfl, rfl⟩ := hv
  have hl1 : (entV (E.drop (i + 1))).length = (m - i) * 2 := by rw [entV_len, List.length_drop, hn]; omega
  have hsrc : ∀ j u, (entV (E.drop (i + 1)))[j]? = some u → w.cell? ⟨g, (i + 1) * 2 + j, none⟩ = some u := fun j u hj => by
    rw [hk.cell]
    rw [entV_drop, List.getElem?_drop] at hj
    simpa using take_entry ht hj
  have hk1 : Blk (w.drew.setCells g (i * 2) (entV (E.drop (i + 1)))) g 62 (splice cur (i * 2) (entV (E.drop (i + 1)))).toArray := Blk.setCells (entV (E.drop (i + 1))) (i * 2) cur w.drew hk (by rw [hl1]; omega)
  have hlen1 : (splice cur (i * 2) (entV (E.drop (i + 1)))).length = cap * 2 := by rw [length_splice _ _ _ (by rw [hl1]; omega), hsz]
  have hfin := struck cur E m cap i hn hi hnc hsz ht
  have hk2 := Blk.setCells zz (m * 2) (splice cur (i * 2) (entV (E.drop (i + 1)))) _ hk1 (by rw [hlen1]; show m * 2 + 2 ≤ _; omega)
  have hlen2 : (splice (splice cur (i * 2) (entV (E.drop (i + 1)))) (m * 2) zz).length = cap * 2 := by
    rw [length_splice _ _ _ (by rw [hlen1]; show m * 2 + 2 ≤ _; omega), hlen1]
  have hb1 : Below base w (w.drew.setCells g (i * 2) (entV (E.drop (i + 1)))) := below_setCells _ _ _ (Below.refl _ _).drew hg
  have hb2 := below_setCells zz (m * 2) _ hb1 hg
  have hown2 := own_mk (n := m) hg hk2 (by omega) hcap hlen2 hfin
  have hclr : ∀ ty, (Builtin.clear_ #[24] ty #[.slice (some ⟨g, m * 2, none⟩) 1 (cap - m)]).run Tryz.prog (w.drew.setCells g (i * 2) (entV (E.drop (i + 1)))) = .ok (.tuple #[]) ((w.drew.setCells g (i * 2) (entV (E.drop (i + 1)))).setCells g (m * 2) zz) := fun ty => by
      have hzs : (Builtin.zeroCells (Value.agg #[.string ⟨#[]⟩, .string ⟨#[]⟩]).cells 1).size = 1 * (Value.agg #[.string ⟨#[]⟩, .string ⟨#[]⟩]).cells.size := by simp [Builtin.zeroCells, Value.cells]
      have h := run_clearN (P := Tryz.prog) (w.drew.setCells g (i * 2) (entV (E.drop (i + 1)))) 24 62 ty (.agg #[.string ⟨#[]⟩, .string ⟨#[]⟩]) Tryz.underlying24 (fun w => by kernel_rfl) g (m * 2) 1 (cap - m) (fun j hj => by
        have hj' : j < 2 := hj
        have hj2 : m * 2 + j < (splice cur (i * 2) (entV (E.drop (i + 1)))).length := by rw [hlen1]; omega
        rw [hk1.cell, List.getElem?_toArray, List.getElem?_eq_getElem hj2]; rfl) (fun j hj => hk1.free _) (by decide) hzs (by rw [zz_eq]; intro v hv; simp [zz] at hv; subst hv; rfl)
      rw [zz_eq] at h
      exact h
  have hap : ∀ ty a c, (m - i = 0 ∨ a = ⟨g, (i + 1) * 2, none⟩) → (Builtin.append_ #[24, 24] ty #[.slice (some ⟨g, 0, none⟩) i cap, .slice (some a) (m - i) c]).run Tryz.prog w.drew = .ok (.slice (some ⟨g, 0, none⟩) (i + (m - i)) cap) (w.drew.setCells g (0 + i * i0.size) (entV (E.drop (i + 1)))) := fun ty a c ha =>
    run_append_room_src w.drew 24 24 ty 62 i0 Tryz.underlying24 hi0 g 0 i cap _ (m - i) (entV (E.drop (i + 1)))
      (Src.ofSlice w.drew Tryz.underlying24 a (m - i) c _ (by rw [hl1, hz1]) (fun j u hj => by
        have hjl := (List.getElem?_eq_some_iff.1 hj).1
        rcases ha with h0 | rfl
        · rw [hl1, h0] at hjl; omega
        · rw [addr_add]; exact hsrc j u hj) (entV_one _)) (by omega)
      (fun j hj => by
        rw [hl1] at hj
        have hj2 : 0 + i * i0.size + j < cur.length := by rw [hz1]; omega
        show (w.cell? _).isSome = true
        rw [hk.cell, List.getElem?_toArray, List.getElem?_eq_getElem hj2]; rfl)
      (fun j hj => hk.free _)
  generalize entV (E.take i ++ E.drop (i + 1)) = R at *
  have i0' : ¬ ((i : Int) = (i : Int) + 1) := by omega
  have i1 : (i : Int) + 1 ≤ (m : Int) + 1 := by omega
  have i2 : (0 : Int) ≤ (i : Int) + 1 := by omega
  have i3 : i ≤ cap := by omega
  have i4 : ¬ cap = m := by omega
  have i5 : i ≤ m := hi
  rw [hz1, Nat.zero_add, show i + (m - i) = m by omega] at hap
  have Hap := Lib.hid hap
  have Hclr := Lib.hid hclr
  have Hown := Lib.hid hown2
  have HB := Lib.hid hb2
  clear hk1 hk2 hlen1 hlen2 hfin hsrc hk ht hown hap hclr hown2 hb1 hb2 hl1
  by_cases hic : cap = i + 1
  · obtain rfl : i = m := by omega
    subst hic
    rw [Nat.add_sub_cancel_left] at Hclr
    rw [Nat.sub_self] at Hap
    have i6 : (i : Int) ≤ (i : Int) + 1 := by omega
    go_enter Tryz.func112, Tryz.ntmps112
    go_wp2_with fail
    go_region_law (refine step_append_run' rfl _ _ 24 24 rfl (.slice (some ⟨g, 0, none⟩) i (i + 1)) (.slice (some ⟨g, 0, none⟩) 0 0) (by simp [Act.eval, Act.put]) (by simp [Act.eval, Act.put]) (Hap.out _ _ _ (.inl trivial)) ?_)
    have hclr := Hclr.out
    go_wp2_with fail
    go_ret
    exact ⟨rfl, Hown.out, HB.out⟩
  · go_enter Tryz.func112, Tryz.ntmps112
    go_wp2_with fail
    go_region_law (refine step_append_run' rfl _ _ 24 24 rfl (.slice (some ⟨g, 0, none⟩) i cap) (.slice (some ⟨g, (i + 1) * 2, none⟩) (m - i) (cap - (i + 1))) (by simp [Act.eval, Act.put]) (by simp [Act.eval, Act.put]) (Hap.out _ _ _ (.inr rfl)) ?_)
    have hclr := Hclr.out
    go_wp2_with fail
    go_ret
    exact ⟨rfl, Hown.out, HB.out⟩
end Go.Proofs.YtpcdgljcpacpiaaGreatDoor
namespace Go.Proofs.YtpcdgljcpacpiaaGreatDoor
open Go.RowKit
attribute [local go_sem ↓] Go.wp_at_zero Go.wp_at_succ
theorem ins_list (C D : List Value) (a b : Value) (i n L : Nat) (hi : i ≤ n) (hL : (n + 1) * 2 ≤ L) (hC : C.length = L) (hD : D.length = (n - i) * 2) :
    (splice (splice C (i * 2) [a, b]) ((i + 1) * 2) D).take ((n + 1) * 2) = C.take (i * 2) ++ (a :: b :: D) ∧ (splice (splice C (i * 2) [a, b]) ((i + 1) * 2) D).length = L ∧
    (splice (splice C ((i + 1) * 2) D) (i * 2) [a, b]).take ((n + 1) * 2) = C.take (i * 2) ++ (a :: b :: D) ∧ (splice (splice C ((i + 1) * 2) D) (i * 2) [a, b]).length = L := by
  have h1 : i * 2 + [a, b].length ≤ C.length := by show i * 2 + 2 ≤ _; omega
  have l1 := length_splice C (i * 2) [a, b] h1
  have h2 : (i + 1) * 2 + D.length ≤ (splice C (i * 2) [a, b]).length := by omega
  have h3 : (i + 1) * 2 + D.length ≤ C.length := by omega
  have l3 := length_splice C ((i + 1) * 2) D h3
  have h4 : i * 2 + [a, b].length ≤ (splice C ((i + 1) * 2) D).length := by show i * 2 + 2 ≤ _; omega
  have hct : (C.take (i * 2)).length = i * 2 := by rw [List.length_take]; omega
  have hl2 : [a, b].length = 2 := rfl
  have key : ∀ (X : List Value), (∀ j, j < (n + 1) * 2 → X[j]? = if j < i * 2 then C[j]? else if j < (i + 1) * 2 then [a, b][j - i * 2]? else D[j - (i + 1) * 2]?) → X.take ((n + 1) * 2) = C.take (i * 2) ++ (a :: b :: D) := by
    intro X hX
    apply List.ext_getElem?
    intro j
    rw [List.getElem?_take]
    by_cases hj : j < (n + 1) * 2
    · rw [if_pos hj, hX j hj]
      by_cases c1 : j < i * 2
      · rw [if_pos c1, List.getElem?_append_left (by omega), List.getElem?_take_of_lt c1]
      · rw [if_neg c1, List.getElem?_append_right (by omega), hct]
        by_cases c2 : j < (i + 1) * 2
        · rw [if_pos c2]
          have : j - i * 2 = 0 ∨ j - i * 2 = 1 := by omega
          rcases this with h | h <;> rw [h] <;> rfl
        · rw [if_neg c2, show j - i * 2 = (j - (i + 1) * 2) + 1 + 1 by omega]
          simp
    · rw [if_neg hj, List.getElem?_eq_none]
      rw [List.length_append, hct]
      simp only [List.length_cons]
      omega
  refine ⟨key _ fun j hj => ?_, by rw [length_splice _ _ _ h2, l1, hC], key _ fun j hj => ?_, by rw [length_splice _ _ _ h4, l3, hC]⟩
  · rw [splice_get _ _ _ h2]
    by_cases c1 : j < (i + 1) * 2
    · rw [if_pos c1, splice_get _ _ _ h1, hl2]
      by_cases c2 : j < i * 2
      · rw [if_pos c2, if_pos c2]
      · rw [if_neg c2, if_neg c2, if_pos (by omega), if_pos c1]
    · rw [if_neg c1, if_pos (by omega), if_neg (by omega), if_neg c1]
  · rw [splice_get _ _ _ h4, hl2]
    by_cases c2 : j < i * 2
    · rw [if_pos c2, if_pos c2, splice_get _ _ _ h3, if_pos (by omega)]
    · rw [if_neg c2, if_neg c2]
      by_cases c1 : j < (i + 1) * 2
      · rw [if_pos (by omega), if_pos c1]
      · rw [if_neg (by omega), if_neg c1, splice_get _ _ _ h3, if_neg c1, if_pos (by omega)]
theorem opaqL {P : Program} {ops : Array Oper} {rest : List Oper} {a : Act} {Q : Exit → Act → World → Prop} {w' : World} (F : World → Prop) (h : F w') (k : ∀ W, F W → wpList P ops Q rest a W) : wpList P ops Q rest a w' := k w' h
theorem opaqQ {Q : Exit → Act → World → Prop} {e : Exit} {a : Act} {w' : World} (F : World → Prop) (h : F w') (k : ∀ W, F W → Q e a W) : Q e a w' := k w' h
def insL (E : List Ent) (i : Nat) (k x : ByteArray) : List Ent := E.take i ++ (k, x) :: E.drop i
theorem insL_v (E : List Ent) (i : Nat) (k x : ByteArray) : entV (insL E i k x) = (entV E).take (i * 2) ++ (.string k :: .string x :: (entV E).drop (i * 2)) := by
  unfold insL
  rw [entV_app, entV_cons, entV_take, entV_drop]
theorem one2 (k x : ByteArray) : ∀ u ∈ ([.string k, .string x] : List Value), u.oneCell' = true := by
  intro u hu
  simp at hu
  rcases hu with rfl | rfl <;> rfl
theorem insL_end (E : List Ent) (k x : ByteArray) : entV (insL E E.length k x) = entV E ++ [.string k, .string x] := by
  rw [insL_v, ← entV_len, List.take_length, List.drop_length]
set_option maxHeartbeats 1000000 in
theorem insert_end (base : Nat) (v : Value) (n vb : Nat) (E : List Ent) (k x : ByteArray) (w : World) (hn : E.length = n) (hn2 : n ≤ 1000000) (hown : w.ownsRow base 62 2 v n (entV E)) (hbase : base ≤ w.heap.size) (hv : Blk w vb 62 #[.string k, .string x]) :
    Calls Tryz.prog 63 #[v, .int .i64 (n : Int), .slice (some ⟨vb, 0, none⟩) 1 1] w fun e w' => ∃ v', e = .returned v' ∧ w'.ownsRow base 62 2 v' (n + 1) (entV (insL E n k x)) ∧ Below base w w' := by
  obtain ⟨i0, hi0, hz0, hz1, hz2⟩ := info_parts infoE
  have hins : entV (insL E n k x) = entV E ++ [.string k, .string x] := by rw [← hn]; exact insL_end E k x
  have hsrc : ∀ j u, ([.string k, .string x] : List Value)[j]? = some u → w.cell? ((⟨vb, 0, none⟩ : Addr).add j) = some u := fun j u hj => by
    rw [addr_add, Nat.zero_add, hv.cell, ← hj]
    simp
  have Hsrc := Lib.hid hsrc
  have Hins := Lib.hid hins
  have Hown := Lib.hid hown
  clear hsrc hins hv
  rcases hown.2 with ⟨rfl, h0⟩ | ⟨g, cap, cur, rfl, hg, hh, hnc, hcap, hsz, ht⟩
  · subst h0
    clear hown
    go_enter Tryz.func63, Tryz.ntmps63
    go_wp2_with (at_builtin; go_must (refine wpList_append_own _ rfl _ _ 24 rfl base 62 i0 (.agg #[.string ⟨#[]⟩, .string ⟨#[]⟩]) 2 32 Tryz.underlying24 hi0 hz0 hz1 hz2 rfl (by decide) _ _ _ rfl Hown.out ⟨vb, 0, none⟩ 1 1 [.string k, .string x] rfl rfl Hsrc.out (one2 k x) (by unfold maxLen; omega) (by omega) hbase ?_); intro v' w' hown' hg _)
    go_ret
    exact ⟨_, rfl, by rw [Hins.out]; exact hown', (Below.refl _ _).grown hg hbase (fun k hk => (Hown.out.lt k hk).1)⟩
  · have hin : (n : Int) ≤ (n : Int) := Int.le_refl _
    have hnc' : (n : Int) ≤ (cap : Int) := by omega
    clear hown hh ht hsz
    by_cases hcn : cap = n
    · subst hcn
      go_enter Tryz.func63, Tryz.ntmps63
      go_wp2_with (at_builtin; go_must (refine wpList_append_own _ rfl _ _ 24 rfl base 62 i0 (.agg #[.string ⟨#[]⟩, .string ⟨#[]⟩]) 2 32 Tryz.underlying24 hi0 hz0 hz1 hz2 rfl (by decide) _ _ _ rfl Hown.out ⟨vb, 0, none⟩ 1 1 [.string k, .string x] rfl rfl Hsrc.out (one2 k x) (by unfold maxLen; omega) (by omega) hbase ?_); intro v' w' hown' hg _)
      go_ret
      exact ⟨_, rfl, by rw [Hins.out]; exact hown', (Below.refl _ _).grown hg hbase (fun k hk => (Hown.out.lt k hk).1)⟩
    · go_enter Tryz.func63, Tryz.ntmps63
      go_wp2_with (at_builtin; go_must (refine wpList_append_own _ rfl _ _ 24 rfl base 62 i0 (.agg #[.string ⟨#[]⟩, .string ⟨#[]⟩]) 2 32 Tryz.underlying24 hi0 hz0 hz1 hz2 rfl (by decide) _ _ _ rfl Hown.out ⟨vb, 0, none⟩ 1 1 [.string k, .string x] rfl rfl Hsrc.out (one2 k x) (by unfold maxLen; omega) (by omega) hbase ?_); intro v' w' hown' hg _)
      go_ret
      exact ⟨_, rfl, by rw [Hins.out]; exact hown', (Below.refl _ _).grown hg hbase (fun k hk => (Hown.out.lt k hk).1)⟩
set_option maxHeartbeats 2000000 in
set_option maxRecDepth 100000 in
theorem insert_room (base g n cap vb i : Nat) (E : List Ent) (k x : ByteArray) (w : World) (hn : E.length = n) (hi : i < n) (hn2 : n ≤ 1000000) (hroom : n < cap) (hown : w.ownsRow base 62 2 (.slice (some ⟨g, 0, none⟩) n cap) n (entV E)) (hv : Blk w vb 62 #[.string k, .string x]) (hvb : vb ≠ g) :
    Calls Tryz.prog 63 #[.slice (some ⟨g, 0, none⟩) n cap, .int .i64 (i : Int), .slice (some ⟨vb, 0, none⟩) 1 1] w fun e w' => ∃ v', e = .returned v' ∧ w'.ownsRow base 62 2 v' (n + 1) (entV (insL E i k x)) ∧ Below base w w' := by
  obtain ⟨i0, hi0, hz0, hz1, hz2⟩ := info_parts infoE
  obtain ⟨g', cap', cur, hv', hg, hk, hnc, hcap, hsz, ht⟩ := own_row hown (by omega)
  simp only [Value.slice.injEq, Option.some.injEq, Addr.mk.injEq, and_true, true_and] at hv'
  obtain ⟨rfl, rfl⟩ := hv'
  have hD : (entV (E.drop i)).length = (n - i) * 2 := by rw [entV_len, List.length_drop, hn]
  have hlist := (ins_list cur (entV (E.drop i)) (.string k) (.string x) i n (cap * 2) (by omega) (by omega) hsz hD).2.2
  have hct : cur.take (i * 2) = (entV E).take (i * 2) := by rw [← ht, List.take_take, Nat.min_eq_left (by omega)]
  have hres : entV (insL E i k x) = cur.take (i * 2) ++ (.string k :: .string x :: entV (E.drop i)) := by rw [insL_v, hct, entV_drop]
  rw [← hres] at hlist
  have hsrc : ∀ j u, (entV (E.drop i))[j]? = some u → w.cell? ⟨g, i * 2 + j, none⟩ = some u := fun j u hj => by
    rw [hk.cell]
    rw [entV_drop, List.getElem?_drop] at hj
    simpa using take_entry ht hj
  have hk1 : Blk (w.drew.setCells g ((i + 1) * 2) (entV (E.drop i))) g 62 (splice cur ((i + 1) * 2) (entV (E.drop i))).toArray := Blk.setCells (entV (E.drop i)) ((i + 1) * 2) cur w.drew hk (by rw [hD]; omega)
  have hl1 : (splice cur ((i + 1) * 2) (entV (E.drop i))).length = cap * 2 := by rw [length_splice _ _ _ (by rw [hD]; omega), hsz]
  have hv1 : Blk (w.drew.setCells g ((i + 1) * 2) (entV (E.drop i))) vb 62 #[.string k, .string x] := Blk.farCells _ _ _ hv.drew hvb
  have hB1 : Below base w (w.drew.setCells g ((i + 1) * 2) (entV (E.drop i))) := below_setCells _ _ _ (Below.refl _ _).drew hg
  have hcp1 : ∀ ty dc sc, (Builtin.copy_ #[24, 24] ty #[.slice (some ⟨g, (i + 1) * 2, none⟩) (n + 1 - (i + 1)) dc, .slice (some ⟨g, i * 2, none⟩) (n + 1 - i) sc]).run Tryz.prog w.drew = .ok (goInt ((n - i : Nat) : Int)) (w.drew.setCells g ((i + 1) * 2) (entV (E.drop i))) := fun ty dc sc =>
    run_copyN w.drew 24 24 ty 62 i0 2 g ((i + 1) * 2) (n + 1 - (i + 1)) dc ⟨g, i * 2, none⟩ (n + 1 - i) sc (n - i) _ Tryz.underlying24 hi0 hz1 (by simp only [Nat.min_def]; split <;> omega) hD (fun j u hj => by rw [addr_add]; exact hsrc j u hj)
      (fun j hj => by
        rw [hD] at hj
        have hj2 : (i + 1) * 2 + j < cur.length := by omega
        show (w.cell? _).isSome = true
        rw [hk.cell, List.getElem?_toArray, List.getElem?_eq_getElem hj2]; rfl)
      (fun j hj => hk.free _) (entV_one _)
  have hov : ∀ lb cb, (callFunc 84 #[.slice (some ⟨vb, 0, none⟩) 1 1, .slice (some ⟨g, (i + 1) * 2, none⟩) lb cb]).run Tryz.prog w = .ok (.value (.bool false)) w := fun lb cb => by
    rw [run_callFunc_extern Tryz.func84 (by kernel_rfl) (by kernel_rfl) (by kernel_rfl) (e := Extern.SlicesOverlaps.overlaps #[24, 24] #[4]) (by kernel_rfl),
      Lib.run_overlaps_apart w 24 4 62 Tryz.underlying24 2 (fun w => by kernel_rfl) ⟨vb, 0, none⟩ ⟨g, (i + 1) * 2, none⟩ 1 1 lb cb hvb 62 62 2 (cap * 2)
        (by unfold Blk at hv; simp [World.shape?, hv]) (by unfold Blk at hk; simp [World.shape?, hk, hsz]) (by omega) (hv.free _) (hv.free _)]
    rfl
  have hcp2 : ∀ W : World, Blk W vb 62 #[.string k, .string x] → Blk W g 62 (splice cur ((i + 1) * 2) (entV (E.drop i))).toArray → ∀ ty dc, (Builtin.copy_ #[24, 24] ty #[.slice (some ⟨g, i * 2, none⟩) (n + 1 - i) dc, .slice (some ⟨vb, 0, none⟩) 1 1]).run Tryz.prog W = .ok (goInt 1) (W.setCells g (i * 2) [.string k, .string x]) := fun W hvW hkW ty dc =>
    run_copyN W 24 24 ty 62 i0 2 g (i * 2) (n + 1 - i) dc ⟨vb, 0, none⟩ 1 1 1 _ Tryz.underlying24 hi0 hz1 (by simp only [Nat.min_def]; split <;> omega) rfl (fun j u hj => by rw [addr_add, Nat.zero_add, hvW.cell, ← hj]; simp)
      (fun j hj => by
        have hj' : j < 2 := hj
        have hj2 : i * 2 + j < (splice cur ((i + 1) * 2) (entV (E.drop i))).length := by omega
        rw [hkW.cell, List.getElem?_toArray, List.getElem?_eq_getElem hj2]; rfl)
      (fun j hj => hkW.free _) (one2 k x)
  have hfin : ∀ W : World, Blk W g 62 (splice cur ((i + 1) * 2) (entV (E.drop i))).toArray → (W.setCells g (i * 2) [.string k, .string x]).ownsRow base 62 2 (.slice (some ⟨g, 0, none⟩) (n + 1) cap) (n + 1) (entV (insL E i k x)) := fun W hkW =>
    own_mk hg (Blk.setCells _ _ _ _ hkW (by show i * 2 + 2 ≤ _; omega)) (by omega) hcap hlist.2 hlist.1
  generalize entV (insL E i k x) = R at *
  generalize hsp : splice cur ((i + 1) * 2) (entV (E.drop i)) = C1 at *
  have Hcp1 := Lib.hid hcp1
  have Hcp2 := Lib.hid hcp2
  have Hfin := Lib.hid hfin
  have HF : (fun W => Hid (Blk W vb 62 #[.string k, .string x]) ∧ Hid (Blk W g 62 C1.toArray) ∧ Hid (Below base w W)) (w.drew.setCells g ((i + 1) * 2) (entV (E.drop i))) := ⟨hv1, hk1, hB1⟩
  clear hcp1 hcp2 hfin hsp hlist hres hct ht hsz hsrc hk hv1 hk1 hB1 hl1 hown hv hD hn
  have c1 : ¬ (i : Int) = (n : Int) := by omega
  have c2 : (i : Int) ≤ (n : Int) := by omega
  have c3 : ¬ ((cap : Int) < (n : Int) + 1) := by omega
  have c4 : (n : Int) + 1 ≤ (cap : Int) := by omega
  have c5 : ¬ cap = i := by omega
  have c6 : ¬ cap = i + 1 := by omega
  have c7 : (i : Int) + 1 ≤ (n : Int) + 1 := by omega
  have c8 : (0 : Int) ≤ (i : Int) + 1 := by omega
  have c9 : IntKind.i64.wrap ((i : Int) + 1) = (i : Int) + 1 := by rw [IntKind.wrap_i64]; omega
  have c10 : (i : Int) ≤ (n : Int) + 1 := by omega
  have c11 : ((i : Int) + 1).toNat = i + 1 := by omega
  go_enter Tryz.func63, Tryz.ntmps63
  go_wp2_with (simp only [hov])
  go_region_law (refine step_copy_run' rfl _ _ 24 24 rfl (.slice (some ⟨g, (i + 1) * 2, none⟩) (n + 1 - (i + 1)) (cap - (i + 1))) (.slice (some ⟨g, i * 2, none⟩) (n + 1 - i) (cap - i)) (by simp [Act.eval, Act.put]) (by simp [Act.eval, Act.put]) (Hcp1.out _ _ _) ?_)
  refine opaqQ (fun W => Hid (Blk W vb 62 #[.string k, .string x]) ∧ Hid (Blk W g 62 C1.toArray) ∧ Hid (Below base w W)) HF ?_
  rintro W ⟨hvW, hkW, hBW⟩
  go_wp2_with (with_reducible refine wpList_copy_run' W rfl _ _ 24 24 rfl (.slice (some ⟨g, i * 2, none⟩) (n + 1 - i) (cap - i)) (.slice (some ⟨vb, 0, none⟩) 1 1) rfl rfl (Hcp2.out W hvW.out hkW.out _ _) ?_)
  go_ret
  exact ⟨_, rfl, Hfin.out W hkW.out, below_setCells _ _ _ hBW.out hg⟩
theorem zeroLen (m : Nat) : (Builtin.zeroCells (Value.agg #[.string ⟨#[]⟩, .string ⟨#[]⟩]).cells m).size = m * 2 := by simp [Builtin.zeroCells, Value.cells]
set_option maxHeartbeats 2000000 in
set_option maxRecDepth 100000 in
theorem insert_grow (base g n vb i : Nat) (E : List Ent) (k x : ByteArray) (w : World) (hn : E.length = n) (hi : i < n) (hn2 : n ≤ 1000000) (hbase : base ≤ w.heap.size) (hown : w.ownsRow base 62 2 (.slice (some ⟨g, 0, none⟩) n n) n (entV E)) (hv : Blk w vb 62 #[.string k, .string x]) :
    Calls Tryz.prog 63 #[.slice (some ⟨g, 0, none⟩) n n, .int .i64 (i : Int), .slice (some ⟨vb, 0, none⟩) 1 1] w fun e w' => ∃ v', e = .returned v' ∧ w'.ownsRow base 62 2 v' (n + 1) (entV (insL E i k x)) ∧ Below base w w' := by
  obtain ⟨i0, hi0, hz0, hz1, hz2⟩ := info_parts infoE
  obtain ⟨g', cap', cur, hv', hg, hk, hnc, hcap, hsz, ht⟩ := own_row hown (by omega)
  simp only [Value.slice.injEq, Option.some.injEq, Addr.mk.injEq, and_true, true_and] at hv'
  obtain ⟨rfl, rfl⟩ := hv'
  have hD : (entV (E.drop i)).length = (n - i) * 2 := by rw [entV_len, List.length_drop, hn]
  have hTl : (entV (E.take i)).length = i * 2 := by rw [entV_len, List.length_take]; omega
  have hget : ∀ j u, (entV E)[j]? = some u → w.cell? ⟨g, j, none⟩ = some u := fun j u hj => by
    rw [hk.cell]
    simpa using take_entry ht hj
  have hold : (Builtin.firstCells i0.size i (.slice (some ⟨g, 0, none⟩) i n)).run Tryz.prog w.drew = .ok (entV (E.take i)).toArray w.drew := by
    rw [hz1]
    exact run_firstCells_some w.drew 2 i ⟨g, 0, none⟩ i n (entV (E.take i)) hTl (fun j u hj => by
      rw [addr_add, Nat.zero_add]
      rw [entV_take, List.getElem?_take] at hj
      split at hj
      · exact hget j u hj
      · cases hj)
  obtain ⟨G, hG⟩ : ∃ G, G = grownCap w (n + 1) n 62 := ⟨_, rfl⟩
  obtain ⟨C, hC⟩ : ∃ C : List Value, C = ((entV (E.take i)).toArray ++ Builtin.zeroCells (Value.agg #[.string ⟨#[]⟩, .string ⟨#[]⟩]).cells (n + 1 - i) ++ Builtin.zeroCells (Value.agg #[.string ⟨#[]⟩, .string ⟨#[]⟩]).cells (G - (n + 1))).toList := ⟨_, rfl⟩
  have hGn : n + 1 ≤ G := by rw [hG]; exact grownCap_ge w _ _ _
  have hG63 : G ≤ 9223372036854775807 := by
    have := grownCap_le_maxLen w (n + 1) n 62 (by unfold maxLen; omega)
    rw [← hG] at this
    unfold maxLen at this
    omega
  have hCl : C.length = G * 2 := by
    rw [hC, Array.length_toList, Array.size_append, Array.size_append, zeroLen, zeroLen]
    simp [hTl]
    omega
  have hCt : C.take (i * 2) = entV (E.take i) := by
    rw [hC, Array.toList_append, Array.toList_append, List.append_assoc, List.take_append_of_le_length (by rw [List.toList_toArray]; omega), List.toList_toArray, List.take_of_length_le (by omega)]
  have hrz : ∀ ty, (Builtin.append_ #[24, 3] ty #[.slice (some ⟨g, 0, none⟩) i n, .int .i64 ((n : Int) + 1 - (i : Int))]).run Tryz.prog w =
      .ok (.slice (some ⟨w.heap.size, 0, none⟩) (n + 1) G) (w.drew.alloc (.cells C.toArray 62)) := fun ty => by
    have h := Lib.run_append_grow_zeros w 24 3 ty 62 i0 _ .i64 .i64 Tryz.underlying24 Tryz.underlying3 hi0 hz0 (some ⟨g, 0, none⟩) i n (entV (E.take i)) hold (n + 1 - i) (by omega) (by omega) (by omega) (by omega) (by rw [hz2]; omega) (by rw [hz2, show i + (n + 1 - i) = n + 1 by omega]; exact growslice_fits (by omega) (by omega))
    rw [show i + (n + 1 - i) = n + 1 by omega, ← hG] at h
    rw [show (n : Int) + 1 - (i : Int) = ((n + 1 - i : Nat) : Int) by omega, hC, Array.toArray_toList]
    exact h
  have hlist := ins_list C (entV (E.drop i)) (.string k) (.string x) i n (G * 2) (by omega) (by omega) hCl hD
  have hres : entV (insL E i k x) = C.take (i * 2) ++ (.string k :: .string x :: entV (E.drop i)) := by rw [insL_v, hCt, entV_take, entV_drop]
  rw [← hres] at hlist
  have hvlt := hv.lt
  have hklt := hk.lt
  have HF : (fun W => Hid (Blk W w.heap.size 62 C.toArray) ∧ Hid (Blk W vb 62 #[.string k, .string x]) ∧ Hid (Blk W g 62 cur.toArray) ∧ Hid (Below base w W)) (w.drew.alloc (.cells C.toArray 62)) :=
    ⟨Blk.new w.drew 62 C.toArray, hv.drew.alloc _, hk.drew.alloc _, (Below.refl _ _).drew.alloc hbase _⟩
  have hcpA : ∀ W : World, Blk W vb 62 #[.string k, .string x] → Blk W w.heap.size 62 C.toArray → ∀ ty dc, (Builtin.copy_ #[24, 24] ty #[.slice (some ⟨w.heap.size, i * 2, none⟩) (n + 1 - i) dc, .slice (some ⟨vb, 0, none⟩) 1 1]).run Tryz.prog W = .ok (goInt 1) (W.setCells w.heap.size (i * 2) [.string k, .string x]) := fun W hvW hkW ty dc =>
    run_copyN W 24 24 ty 62 i0 2 w.heap.size (i * 2) (n + 1 - i) dc ⟨vb, 0, none⟩ 1 1 1 _ Tryz.underlying24 hi0 hz1 (by simp only [Nat.min_def]; split <;> omega) rfl (fun j u hj => by rw [addr_add, Nat.zero_add, hvW.cell, ← hj]; simp)
      (fun j hj => by
        have hj' : j < 2 := hj
        have hj2 : i * 2 + j < C.length := by omega
        rw [hkW.cell, List.getElem?_toArray, List.getElem?_eq_getElem hj2]; rfl)
      (fun j hj => hkW.free _) (one2 k x)
  have hl1 := length_splice C (i * 2) [.string k, .string x] (by show i * 2 + 2 ≤ _; omega)
  have hcpB : ∀ W : World, Blk W g 62 cur.toArray → Blk W w.heap.size 62 (splice C (i * 2) [.string k, .string x]).toArray → ∀ ty dc sc, (Builtin.copy_ #[24, 24] ty #[.slice (some ⟨w.heap.size, (i + 1) * 2, none⟩) (n + 1 - (i + 1)) dc, .slice (some ⟨g, i * 2, none⟩) (n - i) sc]).run Tryz.prog W = .ok (goInt ((n - i : Nat) : Int)) (W.setCells w.heap.size ((i + 1) * 2) (entV (E.drop i))) := fun W hkW hcW ty dc sc =>
    run_copyN W 24 24 ty 62 i0 2 w.heap.size ((i + 1) * 2) (n + 1 - (i + 1)) dc ⟨g, i * 2, none⟩ (n - i) sc (n - i) _ Tryz.underlying24 hi0 hz1 (by simp only [Nat.min_def]; split <;> omega) hD (fun j u hj => by
        rw [addr_add, hkW.cell]
        rw [entV_drop, List.getElem?_drop] at hj
        simpa using take_entry ht hj)
      (fun j hj => by
        rw [hD] at hj
        have hj2 : (i + 1) * 2 + j < (splice C (i * 2) [.string k, .string x]).length := by omega
        rw [hcW.cell, List.getElem?_toArray, List.getElem?_eq_getElem hj2]; rfl)
      (fun j hj => hcW.free _) (entV_one _)
  have hfin : ∀ W : World, Blk W w.heap.size 62 (splice C (i * 2) [.string k, .string x]).toArray → (W.setCells w.heap.size ((i + 1) * 2) (entV (E.drop i))).ownsRow base 62 2 (.slice (some ⟨w.heap.size, 0, none⟩) (n + 1) G) (n + 1) (entV (insL E i k x)) := fun W hkW =>
    own_mk hbase (Blk.setCells _ _ _ _ hkW (by rw [hD]; omega)) hGn hG63 hlist.2.1 hlist.1
  have hset : ∀ W : World, Blk W w.heap.size 62 C.toArray → Blk (W.setCells w.heap.size (i * 2) [.string k, .string x]) w.heap.size 62 (splice C (i * 2) [.string k, .string x]).toArray := fun W hkW => Blk.setCells _ _ _ _ hkW (by show i * 2 + 2 ≤ _; omega)
  generalize entV (insL E i k x) = R at *
  generalize splice C (i * 2) [.string k, .string x] = C1 at *
  generalize entV (E.drop i) = DD at *
  have Hrz := Lib.hid hrz
  have HcpA := Lib.hid hcpA
  have HcpB := Lib.hid hcpB
  have Hfin := Lib.hid hfin
  have Hset := Lib.hid hset
  have Hgw : Hid (g ≠ w.heap.size) := by show _ ≠ _; omega
  clear hrz hcpA hcpB hfin hset hlist hres hCt hC hCl hG hold hget hTl hD ht hsz hk hown hv hn hl1
  have c1 : ¬ (i : Int) = (n : Int) := by omega
  have c2 : (i : Int) ≤ (n : Int) := by omega
  have c3 : ((n : Int) < (n : Int) + 1) := by omega
  have c5 : ¬ n = i := by omega
  have c6 : ¬ G = i := by omega
  have c6' : ¬ G = i + 1 := by omega
  have c7 : (i : Int) + 1 ≤ (n : Int) + 1 := by omega
  have c8 : (0 : Int) ≤ (i : Int) + 1 := by omega
  have c9 : IntKind.i64.wrap ((i : Int) + 1) = (i : Int) + 1 := by rw [IntKind.wrap_i64]; omega
  have c10 : (i : Int) ≤ (n : Int) + 1 := by omega
  have c11 : ((i : Int) + 1).toNat = i + 1 := by omega
  go_enter Tryz.func63, Tryz.ntmps63
  go_wp2_with (first
    | (at_builtin; go_must (refine wpList_append_run' w rfl _ _ 24 3 rfl _ _ rfl rfl _ _ (Hrz.out _) ?_); refine opaqL (fun W => Hid (Blk W w.heap.size 62 C.toArray) ∧ Hid (Blk W vb 62 #[.string k, .string x]) ∧ Hid (Blk W g 62 cur.toArray) ∧ Hid (Below base w W)) HF ?_; rintro W ⟨hcW, hvW, hkW, hBW⟩)
    | (with_reducible refine wpList_copy_run' W rfl _ _ 24 24 rfl (.slice (some ⟨w.heap.size, i * 2, none⟩) (n + 1 - i) (G - i)) (.slice (some ⟨vb, 0, none⟩) 1 1) rfl rfl (HcpA.out W hvW.out hcW.out _ _) ?_
       refine opaqL (fun W' => Hid (Blk W' w.heap.size 62 C1.toArray) ∧ Hid (Blk W' g 62 cur.toArray) ∧ Hid (Below base w W')) ⟨Hset.out W hcW.out, Blk.farCells _ _ _ hkW.out Hgw.out, below_setCells _ _ _ hBW.out hbase⟩ ?_
       rintro W2 ⟨hcW2, hkW2, hBW2⟩))
  go_region_law (refine step_copy_run' rfl _ _ 24 24 rfl (.slice (some ⟨w.heap.size, (i + 1) * 2, none⟩) (n + 1 - (i + 1)) (G - (i + 1))) (.slice (some ⟨g, i * 2, none⟩) (n - i) (n - i)) (by simp [Act.eval, Act.put]) (by simp [Act.eval, Act.put]) (HcpB.out _ hkW2.out.drew hcW2.out.drew _ _ _) ?_)
  go_wp2_with fail
  go_ret
  exact ⟨_, rfl, Hfin.out _ hcW2.out.drew, below_setCells _ _ _ hBW2.out.drew hbase⟩
end Go.Proofs.YtpcdgljcpacpiaaGreatDoor
namespace Go.Proofs.YtpcdgljcpacpiaaGreatDoor
open Go.RowKit
attribute [local go_sem ↓] Go.wp_at_zero Go.wp_at_succ
theorem insert_any (base : Nat) (v : Value) (n vb i : Nat) (E : List Ent) (k x : ByteArray) (w : World) (hn : E.length = n) (hi : i ≤ n) (hn2 : n ≤ 1000000) (hown : w.ownsRow base 62 2 v n (entV E)) (hbase : base ≤ w.heap.size) (hv : Blk w vb 62 #[.string k, .string x]) (hvb : ∀ g, v.ownBlock = some g → vb ≠ g) :
    Calls Tryz.prog 63 #[v, .int .i64 (i : Int), .slice (some ⟨vb, 0, none⟩) 1 1] w fun e w' => ∃ v', e = .returned v' ∧ w'.ownsRow base 62 2 v' (n + 1) (entV (insL E i k x)) ∧ Below base w w' := by
  rcases Nat.lt_or_ge i n with h | h
  · obtain ⟨g, cap, rfl, _, _, hnc, _⟩ : ∃ g cap, v = .slice (some ⟨g, 0, none⟩) n cap ∧ base ≤ g ∧ True ∧ n ≤ cap ∧ True := by
      obtain ⟨g, cap, cur, rfl, hg, _, hnc, _⟩ := own_row hown (by omega)
      exact ⟨g, cap, rfl, hg, trivial, hnc, trivial⟩
    rcases Nat.lt_or_ge n cap with hc | hc
    · exact insert_room base g n cap vb i E k x w hn h hn2 hc hown hv (hvb g rfl)
    · obtain rfl : cap = n := by omega
      exact insert_grow base g cap vb i E k x w hn h hn2 hbase hown hv
  · obtain rfl : i = n := by omega
    exact insert_end base v i vb E k x w hn hn2 hown hbase hv
theorem putL_no {E : List Ent} {k x : ByteArray} (h : hasK E k = false) : putL E k x = insL E (pos E k) k x := by
  unfold putL insL hitN
  rw [h]
  simp
theorem putL_yes {E : List Ent} (hs : Srt E) {k x : ByteArray} (h : hasK E k = true) : entV (putL E k x) = (entV E).set (pos E k * 2 + 1) (.string x) ∧ (putL E k x).length = E.length := by
  obtain ⟨hp, he⟩ := (has_iff hs k).1 h
  have hh : hitN E k = 1 := by unfold hitN; rw [h]; rfl
  have hl := put_len hs k x
  refine ⟨?_, by omega⟩
  unfold putL
  rw [hh, entV_app, entV_cons, entV_take, entV_drop]
  have hEl := entV_len E
  have hgt := entV_get E (pos E k) hp
  rw [he] at hgt
  apply List.ext_getElem?
  intro j
  have htl : ((entV E).take (pos E k * 2)).length = pos E k * 2 := by rw [List.length_take]; omega
  by_cases c1 : j < pos E k * 2
  · rw [List.getElem?_append_left (by omega), List.getElem?_take_of_lt c1, List.getElem?_set_ne (by omega)]
  · rw [List.getElem?_append_right (by omega), htl]
    rcases Nat.lt_trichotomy j (pos E k * 2 + 1) with c2 | c2 | c2
    · obtain rfl : j = pos E k * 2 := by omega
      rw [List.getElem?_set_ne (by omega), hgt.1]; simp
    · subst c2
      rw [List.getElem?_set_self (by omega), show pos E k * 2 + 1 - pos E k * 2 = 1 by omega]; rfl
    · rw [List.getElem?_set_ne (by omega), show j - pos E k * 2 = (j - (pos E k + 1) * 2) + 1 + 1 by omega]
      simp
      congr 1
      omega
set_option maxHeartbeats 1000000 in
theorem put_size (v : Value) (k x : ByteArray) (w : World) (h : 400 < k.size ∨ 4000 < x.size) :
    Calls Tryz.prog 30 #[.agg #[v], .string k, .string x] w fun e w' => e = .returned (.tuple #[.agg #[.slice none 0 0], .int .i64 11]) ∧ Below w.heap.size w w' := by
  have hcc := fun i => (blk2 w (.cells #[v] 27) 27 #[.slice none 0 0]).cell i
  have Hcc := Lib.hid hcc
  have h' : (400 : Int) < (k.size : Int) ∨ (¬ (400 : Int) < (k.size : Int) ∧ (4000 : Int) < (x.size : Int)) := by omega
  have H' := Lib.hid h'
  clear hcc h h'
  rcases H'.out with h1 | ⟨h1, h2⟩
  all_goals
    go_enter Tryz.func30, Tryz.ntmps30
    go_wp2_with fail
    have hcc := Hcc.out
    refine bodyPost_ret (v := .tuple #[.agg #[.slice none 0 0], .int .i64 11]) (by simp [results, Tryz.results30, go_sem, hcc]) rfl ⟨rfl, BW_alloc (BW_alloc (Below.refl _ _) _) _⟩
def putOk (E : List Ent) (k x : ByteArray) : Prop := k.size ≤ 400 ∧ x.size ≤ 4000 ∧ (hasK E k = true ∨ E.length < 2000)
set_option maxHeartbeats 2000000 in
theorem put_has (v : Value) (E : List Ent) (k x : ByteArray) (w : World) (hv : Ents w v E) (hs : Srt E) (hl : E.length ≤ 2000) (hk : k.size ≤ 400) (hx : x.size ≤ 4000) (hh : hasK E k = true) :
    Calls Tryz.prog 30 #[.agg #[v], .string k, .string x] w fun e w' => ∃ v', e = .returned (.tuple #[.agg #[v'], .int .i64 0]) ∧ Ents w' v' (putL E k x) ∧ Below w.heap.size w w' := by
  obtain ⟨hput, hlen⟩ := putL_yes hs (x := x) hh
  obtain ⟨hp, _⟩ := (has_iff hs k).1 hh
  have hfind := fun w hv => find_any v E k w hv hs (by omega)
  rw [hh] at hfind
  have hclone := fun w hv => clone_any v E w hv (by omega)
  have Hv := Lib.hid hv
  have Hfind := Lib.hid hfind
  have Hclone := Lib.hid hclone
  have Hput := Lib.hid hput
  have Hlen := Lib.hid hlen
  clear hfind hclone hput hlen hh hs hv
  generalize hR : putL E k x = R at *
  clear hR
  have hk1 : ¬ ((400 : Int) < (k.size : Int)) := by omega
  have hx1 : ¬ ((4000 : Int) < (x.size : Int)) := by omega
  go_enter Tryz.func30, Tryz.ntmps30
  go_wp2_with fail
  refine (Hfind.out _ (Hv.out.on (BW_alloc (BW_alloc (BW_refl w) _) _))).mono ?_
  rintro e w1 ⟨rfl, hb1⟩
  have kb := ((blk1 w 27 #[v]).alloc (.cells #[.slice none 0 0] 27)).on hb1
  have kr := (blk2 w (.cells #[v] 27) 27 #[.slice none 0 0]).on hb1
  have hB1 := BW_on (BW_alloc (BW_alloc (BW_refl w) (.cells #[v] 27)) (.cells #[.slice none 0 0] 27)) hb1
  have cb := fun i => kb.cell i
  go_wp2_with fail
  refine (Hclone.out _ (Hv.out.on hB1)).mono ?_
  rintro e w2 ⟨v2, rfl, hown, hb2⟩
  clear cb
  have hkrl := kr.lt
  replace kr := kr.on hb2
  have hB2 := BW_on hB1 hb2
  have hw1 := hB1.size
  obtain ⟨g, cap, cur, rfl, hg, hkk, hnc, hcap, hsz, ht⟩ := own_row hown (by omega)
  have hcell := hown.cellAt (pos E k * 2 + 1) (by omega)
  obtain ⟨old, hold⟩ : ∃ old, (entV E)[pos E k * 2 + 1]? = some old := ⟨_, (entV_get E (pos E k) hp).2⟩
  rw [hold] at hcell
  have hfz := hown.frozenAt (pos E k * 2 + 1)
  have Hst := Lib.hid (hown.stored (pos E k * 2 + 1) (.string x)).1
  have fr := fun i => kr.free i
  have cr := fun i => kr.cell i
  have hpi : (pos E k : Int) < (E.length : Int) := by omega
  have hne : w.heap.size + 1 ≠ g := by omega
  clear hown hkk ht hold
  go_wp2_with fail
  have hk2 := (kr.off (p := ⟨g, pos E k * 2 + 1, none⟩) hne (.string x)).set_ 0 (.slice (some ⟨g, 0, none⟩) E.length cap)
  have hcc := fun i => hk2.cell i
  have hown3 : ((w2.setCell ⟨g, pos E k * 2 + 1, none⟩ (.string x)).setCell ⟨w.heap.size + 1, 0, none⟩ (.slice (some ⟨g, 0, none⟩) E.length cap)).ownsRow w1.heap.size 62 2 (.slice (some ⟨g, 0, none⟩) E.length cap) E.length (entV R) := by
    rw [Hput.out]
    exact ownsRow_setCell_below Hst.out hkrl _
  rw [← Hlen.out] at hown3
  have hents := own_ents hown3
  rw [Hlen.out] at hents
  refine bodyPost_ret (v := .tuple #[.agg #[.slice (some ⟨g, 0, none⟩) E.length cap], .int .i64 0]) (by simp [results, Tryz.results30, go_sem, hcc]) rfl ⟨_, rfl, hents, BW_off (by simp) _ (BW_off (by show w.heap.size ≤ g; omega) _ hB2)⟩
set_option maxHeartbeats 2000000 in
theorem put_full (v : Value) (E : List Ent) (k x : ByteArray) (w : World) (hv : Ents w v E) (hs : Srt E) (hl : E.length = 2000) (hk : k.size ≤ 400) (hx : x.size ≤ 4000) (hh : hasK E k = false) :
    Calls Tryz.prog 30 #[.agg #[v], .string k, .string x] w fun e w' => e = .returned (.tuple #[.agg #[.slice none 0 0], .int .i64 15]) ∧ Below w.heap.size w w' := by
  have hfind := fun w hv => find_any v E k w hv hs (by omega)
  rw [hh] at hfind
  have hclone := fun w hv => clone_any v E w hv (by omega)
  rw [hl] at hclone
  have Hv := Lib.hid hv
  have Hfind := Lib.hid hfind
  have Hclone := Lib.hid hclone
  clear hfind hclone hh hs hv hl
  have hk1 : ¬ ((400 : Int) < (k.size : Int)) := by omega
  have hx1 : ¬ ((4000 : Int) < (x.size : Int)) := by omega
  go_enter Tryz.func30, Tryz.ntmps30
  go_wp2_with fail
  refine (Hfind.out _ (Hv.out.on (BW_alloc (BW_alloc (BW_refl w) _) _))).mono ?_
  rintro e w1 ⟨rfl, hb1⟩
  have kb := ((blk1 w 27 #[v]).alloc (.cells #[.slice none 0 0] 27)).on hb1
  have kr := (blk2 w (.cells #[v] 27) 27 #[.slice none 0 0]).on hb1
  have hB1 := BW_on (BW_alloc (BW_alloc (BW_refl w) (.cells #[v] 27)) (.cells #[.slice none 0 0] 27)) hb1
  have cb := fun i => kb.cell i
  go_wp2_with fail
  refine (Hclone.out _ (Hv.out.on hB1)).mono ?_
  rintro e w2 ⟨v2, rfl, hown, hb2⟩
  clear cb
  replace kr := kr.on hb2
  have hB2 := BW_on hB1 hb2
  obtain ⟨g, cap, cur, rfl, hg, hkk, hnc, hcap, hsz, ht⟩ := own_row hown (by omega)
  have fr := fun i => kr.free i
  have cr := fun i => kr.cell i
  clear hown hkk ht
  go_wp2_with fail
  have hcc := fun i => (kr.set_ 0 (.slice none 0 0)).cell i
  refine bodyPost_ret (v := .tuple #[.agg #[.slice none 0 0], .int .i64 15]) (by simp [results, Tryz.results30, go_sem, hcc]) rfl ⟨rfl, BW_off (by simp) _ hB2⟩
set_option maxHeartbeats 2000000 in
set_option maxRecDepth 100000 in
theorem put_new (v : Value) (E : List Ent) (k x : ByteArray) (w : World) (hv : Ents w v E) (hs : Srt E) (hl : E.length < 2000) (hk : k.size ≤ 400) (hx : x.size ≤ 4000) (hh : hasK E k = false) :
    Calls Tryz.prog 30 #[.agg #[v], .string k, .string x] w fun e w' => ∃ v', e = .returned (.tuple #[.agg #[v'], .int .i64 0]) ∧ Ents w' v' (putL E k x) ∧ Below w.heap.size w w' := by
  have hput : putL E k x = insL E (pos E k) k x := putL_no hh
  have hple := pos_le E k
  have hfind := fun w hv => find_any v E k w hv hs (by omega)
  rw [hh] at hfind
  have hclone := fun w hv => clone_any v E w hv (by omega)
  have hinsl : (insL E (pos E k) k x).length = E.length + 1 := by
    have h1 := put_len hs k x
    have h2 : hitN E k = 0 := by unfold hitN; rw [hh]; rfl
    rw [← hput]; omega
  have hins := fun base v' vb w hown hbase hvb hne => insert_any base v' E.length vb (pos E k) E k x w rfl hple (by omega) hown hbase hvb hne
  rw [← hput] at hins hinsl
  have Hv := Lib.hid hv
  have Hfind := Lib.hid hfind
  have Hclone := Lib.hid hclone
  have Hins := Lib.hid hins
  have Hlen := Lib.hid hinsl
  clear hfind hclone hh hs hv hins hput hinsl
  generalize putL E k x = R at *
  have hk1 : ¬ ((400 : Int) < (k.size : Int)) := by omega
  have hx1 : ¬ ((4000 : Int) < (x.size : Int)) := by omega
  have hl1 : ¬ ((2000 : Int) ≤ (E.length : Int)) := by omega
  go_enter Tryz.func30, Tryz.ntmps30
  go_wp2_with fail
  refine (Hfind.out _ (Hv.out.on (BW_alloc (BW_alloc (BW_refl w) _) _))).mono ?_
  rintro e w1 ⟨rfl, hb1⟩
  have kb := ((blk1 w 27 #[v]).alloc (.cells #[.slice none 0 0] 27)).on hb1
  have kr := (blk2 w (.cells #[v] 27) 27 #[.slice none 0 0]).on hb1
  have hB1 := BW_on (BW_alloc (BW_alloc (BW_refl w) (.cells #[v] 27)) (.cells #[.slice none 0 0] 27)) hb1
  have cb := fun i => kb.cell i
  go_wp2_with fail
  refine (Hclone.out _ (Hv.out.on hB1)).mono ?_
  rintro e w2 ⟨v2, rfl, hown, hb2⟩
  clear cb
  have hkrl := kr.lt
  replace kr := kr.on hb2
  have hB2 := BW_on hB1 hb2
  have hw1 := hB1.size
  have hw2 := hb2.size
  have Hown := Lib.hid (hown.alloc (.cells #[.string k, .string x] 62))
  have Hne : Hid (∀ g, v2.ownBlock = some g → w2.heap.size ≠ g) := fun g hg => by have := (hown.lt g hg).2; omega
  obtain ⟨q, cap, rfl⟩ : ∃ q cap, v2 = .slice q E.length cap := (own_ents hown).len
  have kv := Blk.new w2 62 #[.string k, .string x]
  have hB2' := BW_alloc hB2 (.cells #[.string k, .string x] 62)
  have kr' := kr.alloc (.cells #[.string k, .string x] 62)
  clear hown
  go_wp2_with fail
  refine (Hins.out w1.heap.size _ w2.heap.size _ Hown.out (by simp; omega) kv Hne.out).mono ?_
  rintro e w3 ⟨v3, rfl, hown3, hb3⟩
  have kr3 := kr'.below hb3 hkrl
  have hB3 : Below w.heap.size w w3 := hB2'.trans (hb3.mono hw1)
  have fr := fun i => kr3.free i
  have cr := fun i => kr3.cell i
  have hents3 := hown3
  rw [← Hlen.out] at hents3
  obtain ⟨q3, cap3, rfl⟩ : ∃ q cap, v3 = .slice q R.length cap := (own_ents hents3).len
  have Hents := Lib.hid (own_ents (ownsRow_setCell_below hents3 (show (⟨w.heap.size + 1, 0, none⟩ : Addr).block < w1.heap.size from hkrl) (.slice q3 R.length cap3)))
  clear hown3 hents3 kv
  go_wp2_with fail
  have hcc := fun i => (kr3.set_ 0 (.slice q3 R.length cap3)).cell i
  refine bodyPost_ret (v := .tuple #[.agg #[.slice q3 R.length cap3], .int .i64 0]) (by simp [results, Tryz.results30, go_sem, hcc]) rfl ⟨_, rfl, Hents.out, BW_off (by simp) _ hB3⟩
end Go.Proofs.YtpcdgljcpacpiaaGreatDoor
namespace Go.Proofs.YtpcdgljcpacpiaaGreatDoor
open Go.RowKit
attribute [local go_sem ↓] Go.wp_at_zero Go.wp_at_succ
theorem eqEnt (a b c d : ByteArray) (w : World) : (Op.equalIn 10000 62 (.agg #[.string a, .string b]) (.agg #[.string c, .string d])).run Tryz.prog w = .ok (decide (a = c) && decide (b = d)) w := by
  have u9 := Tryz.underlying9
  have a9 := Tryz.isAgg9
  have z9 := Tryz.sizeOf9
  have hS : Tryz.prog.underlying 62 = some (.struct (Tryz.prog.fieldsOf 62)) := by kernel_rfl
  have hp : Tryz.prog.stoodInHeld 62 = false := by kernel_rfl
  rw [show (10000 : Nat) = 9999 + 1 from rfl, run_equalIn_agg w 9999 62 _ _ hS hp]
  simp only [Program.fieldsOf, Tryz.underlying62]
  go_simp
  rw [← beq_kl a c, ← beq_kl b d]
  by_cases h1 : a.toList = c.toList <;> by_cases h2 : b.toList = d.toList <;> simp [h1, h2]
theorem ent_neq {a b c d : ByteArray} (h : (a, b) ≠ (c, d)) (w : World) : (Op.equalIn 10000 62 (.agg #[.string a, .string b]) (.agg #[.string c, .string d])).run Tryz.prog w = .ok false w := by
  rw [eqEnt]
  have : (decide (a = c) && decide (b = d)) = false := by
    by_cases h1 : a = c
    · by_cases h2 : b = d
      · exact absurd (by rw [h1, h2]) h
      · simp [h2]
    · simp [h1]
  rw [this]
theorem ent_eq (a b : ByteArray) (w : World) : (Op.equalIn 10000 62 (.agg #[.string a, .string b]) (.agg #[.string a, .string b])).run Tryz.prog w = .ok true w := by
  rw [eqEnt]; simp
theorem list_eq_of {E F : List Ent} (hl : E.length = F.length) (h : ∀ j (h1 : j < E.length) (h2 : j < F.length), E[j] = F[j]) : E = F := List.ext_getElem hl h
set_option maxHeartbeats 1000000 in
theorem equal_any (v1 v2 : Value) (E F : List Ent) (w : World) (hv : Ents w v1 E) (hu : Ents w v2 F) (hl : E.length ≤ 1000000) (hl2 : F.length ≤ 1000000) :
    Calls Tryz.prog 58 #[v1, v2] w fun e w' => e = .returned (.bool (decide (E = F))) ∧ Below w.heap.size w w' := by
  by_cases hlen : E.length = F.length
  · rcases hv with ⟨rfl, q, cap, rfl, _⟩ | ⟨h0, g, off, cap, rfl, hc1, hc2, hent⟩
    · obtain rfl : F = [] := List.eq_nil_of_length_eq_zero hlen.symm
      obtain ⟨q2, cap2, rfl⟩ := hu.len
      clear hu
      go_enter Tryz.func58, Tryz.ntmps58
      go_wp2_with fail
      go_loopw [13] (fun i wr => i = .int .i64 0 ∧ Below w.heap.size w wr) (fun _ _ => 0)
      case atStart => exact ⟨rfl, Below.refl _ _⟩
      case round =>
        obtain ⟨rfl, hb⟩ := hrel
        go_wp2_with fail
        go_ret
        exact ⟨by simp, hb⟩
    · rcases hu with ⟨rfl, _⟩ | ⟨h0', g2, off2, cap2, rfl, hd1, hd2, hent2⟩
      · have h00 : ([] : List Ent).length = 0 := rfl
        omega
      rw [← hlen]
      have Hlen := Lib.hid hlen
      have Hent := Lib.hid hent
      have Hent2 := Lib.hid hent2
      clear hent hent2 hlen hd1 h0' hl2
      go_enter Tryz.func58, Tryz.ntmps58
      go_wp2_with fail
      go_loopw [13] (fun i wr => ∃ k : Nat, k ≤ E.length ∧ i = .int .i64 (k : Int) ∧ Hid (∀ j (h1 : j < E.length) (h2 : j < F.length), j < k → E[j] = F[j]) ∧ Below w.heap.size w wr) (fun i _ => E.length - (intOf i).toNat)
      case atStart => exact ⟨0, by omega, rfl, fun j _ _ h => absurd h (Nat.not_lt_zero _), Below.refl _ _⟩
      case round =>
        obtain ⟨k, hk, rfl, hinv, hb⟩ := hrel
        by_cases hlt : k < E.length
        · have hlt2 : k < F.length := by rw [← Hlen.out]; exact hlt
          have hc := (Hent.out.on hb) k hlt
          have hd := (Hent2.out.on hb) k hlt2
          have hk1 : (k : Int) < (E.length : Int) := by omega
          by_cases he : E[k] = F[k]
          · have hinv' : Hid (∀ j (h1 : j < E.length) (h2 : j < F.length), j < k + 1 → E[j] = F[j]) := fun j h1 h2 h3 => by
              by_cases h4 : j < k
              · exact hinv.out j h1 h2 h4
              · obtain rfl : j = k := by omega
                exact he
            rw [← he] at hd
            have hE := ent_eq E[k].1 E[k].2
            clear he
            generalize E[k].1 = a1 at *
            generalize E[k].2 = a2 at *
            go_wp2_with fail
            go_quiet (fail)
            go_wp2_with fail
            go_roundw
            case rel => exact ⟨k + 1, by omega, by go_num, hinv', below_drewN hb _⟩
            case measure => simp [intOf]; omega
          · have hE := ent_neq (a := E[k].1) (b := E[k].2) (c := F[k].1) (d := F[k].2) he
            have hne : decide (E = F) = false := by
              rw [decide_eq_false_iff_not]
              rintro rfl
              exact he rfl
            have Hne := Lib.hid hne
            clear he hne
            generalize E[k].1 = a1 at *
            generalize E[k].2 = a2 at *
            generalize F[k].1 = b1 at *
            generalize F[k].2 = b2 at *
            go_wp2_with fail
            go_quiet (fail)
            go_wp2_with fail
            go_ret
            exact ⟨by rw [Hne.out]; rfl, below_drewN hb _⟩
        · obtain rfl : k = E.length := by omega
          have he : E = F := list_eq_of Hlen.out (fun j h1 h2 => hinv.out j h1 h2 h1)
          have He : Hid (decide (E = F) = true) := decide_eq_true he
          clear he
          go_wp2_with fail
          go_ret
          exact ⟨by rw [He.out]; rfl, hb⟩
  · have hne : decide (E = F) = false := by
      rw [decide_eq_false_iff_not]
      rintro rfl
      exact hlen rfl
    rw [hne]
    obtain ⟨q, cap, rfl⟩ := hv.len
    obtain ⟨q2, cap2, rfl⟩ := hu.len
    have h1 : ((E.length : Int) != (F.length : Int)) = true := by simp; omega
    clear hne hv hu hlen
    go_enter Tryz.func58, Tryz.ntmps58
    go_wp2_with fail
    go_ret
    exact ⟨rfl, Below.refl _ _⟩
set_option maxHeartbeats 400000 in
theorem same_any (v1 v2 : Value) (E F : List Ent) (w : World) (hv : Ents w v1 E) (hu : Ents w v2 F) (hl : E.length ≤ 1000000) (hl2 : F.length ≤ 1000000) :
    Calls Tryz.prog 28 #[.agg #[v1], .agg #[v2]] w fun e w' => e = .returned (.bool (decide (E = F))) ∧ Below w.heap.size w w' := by
  have hc := fun w hv hu => equal_any v1 v2 E F w hv hu hl hl2
  have Hc := Lib.hid hc
  have Hv := Lib.hid hv
  have Hu := Lib.hid hu
  clear hc hv hu
  go_enter Tryz.func28, Tryz.ntmps28
  go_wp2_with fail
  refine (Hc.out _ (Hv.out.on (BW_alloc (BW_alloc (BW_refl w) _) _)) (Hu.out.on (BW_alloc (BW_alloc (BW_refl w) _) _))).mono ?_
  rintro e w1 ⟨rfl, hb1⟩
  go_wp2_with fail
  go_ret
  exact ⟨rfl, BW_on (BW_alloc (BW_alloc (BW_refl w) _) _) hb1⟩
set_option maxHeartbeats 1000000 in
theorem drop_no (v : Value) (E : List Ent) (k : ByteArray) (w : World) (hv : Ents w v E) (hs : Srt E) (hl : E.length ≤ 2000) (hh : hasK E k = false) :
    Calls Tryz.prog 94 #[.agg #[v], .string k] w fun e w' => e = .returned (.tuple #[.agg #[v], .bool false]) ∧ Below w.heap.size w w' := by
  have hfind := fun w hv => find_any v E k w hv hs (by omega)
  rw [hh] at hfind
  obtain ⟨q, cap, rfl⟩ := hv.len
  have Hv := Lib.hid hv
  have Hfind := Lib.hid hfind
  clear hfind hh hs hv
  go_enter Tryz.func94, Tryz.ntmps94
  go_wp2_with fail
  refine (Hfind.out _ (Hv.out.on (BW_alloc (BW_alloc (BW_refl w) _) _))).mono ?_
  rintro e w1 ⟨rfl, hb1⟩
  have kb := ((blk1 w 27 #[.slice q E.length cap]).alloc (.cells #[.slice none 0 0] 27)).on hb1
  have kr := (blk2 w (.cells #[.slice q E.length cap] 27) 27 #[.slice none 0 0]).on hb1
  have hB1 := BW_on (BW_alloc (BW_alloc (BW_refl w) (.cells #[.slice q E.length cap] 27)) (.cells #[.slice none 0 0] 27)) hb1
  have cb := fun i => kb.cell i
  have cr := fun i => kr.cell i
  have fr := fun i => kr.free i
  go_wp2_with fail
  have hcc := fun i => (kr.set_ 0 (.slice q E.length cap)).cell i
  refine bodyPost_ret (v := .tuple #[.agg #[.slice q E.length cap], .bool false]) (by simp [results, Tryz.results94, go_sem, hcc]) rfl ⟨rfl, BW_off (by simp) _ hB1⟩
set_option maxHeartbeats 1000000 in
theorem drop_yes (v : Value) (E : List Ent) (k : ByteArray) (w : World) (hv : Ents w v E) (hs : Srt E) (hl : E.length ≤ 2000) (hh : hasK E k = true) :
    Calls Tryz.prog 94 #[.agg #[v], .string k] w fun e w' => ∃ v', e = .returned (.tuple #[.agg #[v'], .bool true]) ∧ Ents w' v' (dropL E k) ∧ Below w.heap.size w w' := by
  obtain ⟨hp, _⟩ := (has_iff hs k).1 hh
  have hdl : dropL E k = E.take (pos E k) ++ E.drop (pos E k + 1) := by unfold dropL hitN; rw [hh]; rfl
  have hdn : (dropL E k).length + 1 = E.length := by
    have := drop_len hs k
    unfold hitN at this
    rw [hh] at this
    exact this
  obtain ⟨m, hm⟩ : ∃ m, E.length = m + 1 := ⟨E.length - 1, by omega⟩
  have hdm : (dropL E k).length = m := by omega
  have hfind := fun w hv => find_any v E k w hv hs (by omega)
  rw [hh] at hfind
  have hclone := fun w hv => clone_any v E w hv (by omega)
  have hdel := fun base g cap w hown => delete_one base g m cap (pos E k) E w hm (by omega) (by omega) hown
  rw [← hdl] at hdel
  rw [hm] at hclone
  obtain ⟨q0, cap0, rfl⟩ := hv.len
  have Hv := Lib.hid hv
  have Hfind := Lib.hid hfind
  have Hclone := Lib.hid hclone
  have Hdel := Lib.hid hdel
  have Hdm := Lib.hid hdm
  have hpm : (pos E k : Int) ≤ (m : Int) := by omega
  clear hfind hclone hdel hs hv hdl hdn hdm hm
  generalize dropL E k = R at *
  go_enter Tryz.func94, Tryz.ntmps94
  go_wp2_with fail
  refine (Hfind.out _ (Hv.out.on (BW_alloc (BW_alloc (BW_refl w) _) _))).mono ?_
  rintro e w1 ⟨rfl, hb1⟩
  have kb := ((blk1 w 27 #[.slice q0 E.length cap0]).alloc (.cells #[.slice none 0 0] 27)).on hb1
  have kr := (blk2 w (.cells #[.slice q0 E.length cap0] 27) 27 #[.slice none 0 0]).on hb1
  have hB1 := BW_on (BW_alloc (BW_alloc (BW_refl w) (.cells #[.slice q0 E.length cap0] 27)) (.cells #[.slice none 0 0] 27)) hb1
  have cb := fun i => kb.cell i
  go_wp2_with fail
  refine (Hclone.out _ (Hv.out.on hB1)).mono ?_
  rintro e w2 ⟨v2, rfl, hown, hb2⟩
  clear cb
  have hkrl := kr.lt
  replace kr := kr.on hb2
  have hB2 := BW_on hB1 hb2
  have hw1 := hB1.size
  obtain ⟨g, cap, cur, rfl, _⟩ := own_row hown (by omega)
  go_wp2_with fail
  refine (Hdel.out w1.heap.size g cap _ hown).mono ?_
  rintro e w3 ⟨rfl, hown3, hb3⟩
  have kr3 := kr.below hb3 hkrl
  have hB3 : Below w.heap.size w w3 := hB2.trans (hb3.mono hw1)
  have fr := fun i => kr3.free i
  have cr := fun i => kr3.cell i
  have hents3 := ownsRow_setCell_below hown3 (show (⟨w.heap.size + 1, 0, none⟩ : Addr).block < w1.heap.size from hkrl) (.slice (some ⟨g, 0, none⟩) m cap)
  rw [← Hdm.out] at hents3
  have hents4 := own_ents hents3
  rw [Hdm.out] at hents4
  have Hents := Lib.hid hents4
  clear hown hown3 hents3 hents4
  go_wp2_with fail
  have hcc := fun i => (kr3.set_ 0 (.slice (some ⟨g, 0, none⟩) m cap)).cell i
  refine bodyPost_ret (v := .tuple #[.agg #[.slice (some ⟨g, 0, none⟩) m cap], .bool true]) (by simp [results, Tryz.results94, go_sem, hcc]) rfl ⟨_, rfl, Hents.out, BW_off (by simp) _ hB3⟩
end Go.Proofs.YtpcdgljcpacpiaaGreatDoor
namespace Go.Proofs.YtpcdgljcpacpiaaGreatDoor
open Go.RowKit
attribute [local go_sem ↓] Go.wp_at_zero Go.wp_at_succ
instance (E : List Ent) (k x : ByteArray) : Decidable (putOk E k x) := by unfold putOk; infer_instance
def stepL (E : List Ent) (x : Ent) : List Ent := if putOk E x.1 x.2 then putL E x.1 x.2 else E
def ofL (L : List Ent) : List Ent := L.foldl stepL []
theorem ofL_snoc (L : List Ent) (x : Ent) : ofL (L ++ [x]) = stepL (ofL L) x := by simp [ofL, List.foldl_append]
theorem stepL_inv {E : List Ent} (x : Ent) (hs : Srt E) (hl : E.length ≤ 2000) : Srt (stepL E x) ∧ (stepL E x).length ≤ 2000 := by
  unfold stepL
  split
  · rename_i h
    refine ⟨put_srt hs _ _, ?_⟩
    have h1 := put_len hs x.1 x.2
    unfold hitN at h1
    rcases h.2.2 with h2 | h2
    · rw [h2] at h1; simp at h1; omega
    · split at h1 <;> omega
  · exact ⟨hs, hl⟩
theorem ofL_inv (L : List Ent) : Srt (ofL L) ∧ (ofL L).length ≤ 2000 := by
  suffices h : ∀ (L E : List Ent), Srt E → E.length ≤ 2000 → Srt (L.foldl stepL E) ∧ (L.foldl stepL E).length ≤ 2000 from h L [] List.Pairwise.nil (by decide)
  intro L
  induction L with
  | nil => intro E h1 h2; exact ⟨h1, h2⟩
  | cons x L ih => intro E h1 h2; exact ih _ (stepL_inv x h1 h2).1 (stepL_inv x h1 h2).2
/-- What Put comes to. -/
theorem put_any (v : Value) (E : List Ent) (k x : ByteArray) (w : World) (hv : Ents w v E) (hs : Srt E) (hl : E.length ≤ 2000) :
    Calls Tryz.prog 30 #[.agg #[v], .string k, .string x] w fun e w' => ∃ v' c, e = .returned (.tuple #[.agg #[v'], .int .i64 c]) ∧ ((putOk E k x ∧ c = 0 ∧ Ents w' v' (putL E k x)) ∨ (¬ putOk E k x ∧ (c = 11 ∨ c = 15) ∧ v' = .slice none 0 0)) ∧ Below w.heap.size w w' := by
  by_cases h1 : 400 < k.size ∨ 4000 < x.size
  · exact (put_size v k x w h1).mono fun e w' ⟨he, hb⟩ => ⟨_, _, he, .inr ⟨fun h => by have := h.1; have := h.2.1; omega, .inl rfl, rfl⟩, hb⟩
  · cases hh : hasK E k with
    | true => exact (put_has v E k x w hv hs hl (by omega) (by omega) hh).mono fun e w' ⟨v', he, hen, hb⟩ => ⟨_, _, he, .inl ⟨⟨by omega, by omega, .inl hh⟩, rfl, hen⟩, hb⟩
    | false =>
      rcases Nat.lt_or_ge E.length 2000 with h2 | h2
      · exact (put_new v E k x w hv hs h2 (by omega) (by omega) hh).mono fun e w' ⟨v', he, hen, hb⟩ => ⟨_, _, he, .inl ⟨⟨by omega, by omega, .inr h2⟩, rfl, hen⟩, hb⟩
      · exact (put_full v E k x w hv hs (by omega) (by omega) (by omega) hh).mono fun e w' ⟨he, hb⟩ => ⟨_, _, he, .inr ⟨fun h => by rcases h.2.2 with h3 | h3; (rw [hh] at h3; cases h3); omega, .inr rfl, rfl⟩, hb⟩
theorem Ents.nil (w : World) : Ents w (.slice none 0 0) [] := .inl ⟨rfl, none, 0, rfl, by decide⟩
/-- Entries do not lie in a box that holds a slice. -/
theorem Ents.box {w : World} {v : Value} {E : List Ent} {b : Nat} {t : TypeId} {q : Option Addr} {n c : Nat} (h : Ents w v E) (hb : Blk w b t #[.slice q n c]) (u : Value) : Ents (w.setCell ⟨b, 0, none⟩ u) v E := by
  rcases h with h | ⟨h0, g, off, cap, h1, h2, h3, h4⟩
  · exact .inl h
  · refine .inr ⟨h0, g, off, cap, h1, h2, h3, fun i hi => ?_⟩
    have hne : b ≠ g := by
      rintro rfl
      have hc := (h4 i hi).1
      rw [hb.cell] at hc
      have hz : off + i * 2 = 0 := by
        have := (Array.getElem?_eq_some_iff.1 hc).1
        simp at this
        omega
      rw [hz] at hc
      simp at hc
    exact ⟨by rw [World.cell?_setCell_far _ _ _ _ hne]; exact (h4 i hi).1, by rw [World.cell?_setCell_far _ _ _ _ hne]; exact (h4 i hi).2⟩
set_option maxHeartbeats 2000000 in
theorem of_any (u : Value) (L : List Ent) (w : World) (hv : Ents w u L) (hl : L.length ≤ 1000000) :
    Calls Tryz.prog 8 #[u] w fun e w' => ∃ v', e = .returned (.agg #[v']) ∧ Ents w' v' (ofL L) ∧ Below w.heap.size w w' := by
  rcases hv with ⟨rfl, q, cap, rfl, _⟩ | ⟨h0, g, off, cap, rfl, hc1, hc2, hent⟩
  · go_enter Tryz.func8, Tryz.ntmps8
    go_wp2_with fail
    go_loopw [10] (fun i wr => i = .int .i64 0 ∧ Blk wr w.heap.size 27 #[.slice none 0 0] ∧ Blk wr (w.heap.size + 1) 27 #[.slice none 0 0] ∧ Below w.heap.size w wr) (fun _ _ => 0)
    case atStart => exact ⟨rfl, (blk1 w _ _).alloc _, blk2 w (.cells #[.slice none 0 0] 27) 27 #[.slice none 0 0], BW_alloc (BW_alloc (BW_refl w) _) _⟩
    case round =>
      obtain ⟨rfl, kr, kd, hB⟩ := hrel
      have cd := fun i => kd.cell i
      have fr := fun i => kr.free i
      have cr := fun i => kr.cell i
      go_wp2_with fail
      have hcc := fun i => (kr.set_ 0 (.slice none 0 0)).cell i
      refine bodyPost_ret (v := .agg #[.slice none 0 0]) (by simp [results, Tryz.results8, go_sem, hcc]) rfl ⟨_, rfl, Ents.nil _, BW_off (by simp) _ hB⟩
  · have Hent := Lib.hid hent
    clear hent
    go_enter Tryz.func8, Tryz.ntmps8
    go_wp2_with fail
    go_loopw [10] (fun i wr => ∃ (k : Nat) (d : Value), k ≤ L.length ∧ i = .int .i64 (k : Int) ∧ Hid (Ents wr d (ofL (L.take k))) ∧ Blk wr w.heap.size 27 #[.slice none 0 0] ∧ Blk wr (w.heap.size + 1) 27 #[d] ∧ Below w.heap.size w wr) (fun i _ => L.length - (intOf i).toNat)
    case atStart => exact ⟨0, _, by omega, rfl, Ents.nil _, (blk1 w _ _).alloc _, blk2 w (.cells #[.slice none 0 0] 27) 27 #[.slice none 0 0], BW_alloc (BW_alloc (BW_refl w) _) _⟩
    case round =>
      obtain ⟨k, d, hk, rfl, hd, kr, kd, hB⟩ := hrel
      obtain ⟨q0, cap0, n0, rfl⟩ : ∃ q1 cap1 n1, d = .slice q1 n1 cap1 := by obtain ⟨q, c, h⟩ := hd.out.len; exact ⟨q, c, _, h⟩
      have cd := fun i => kd.cell i
      by_cases hlt : k < L.length
      · have hc := (Hent.out.on hB) k hlt
        have hk1 : (k : Int) < (L.length : Int) := by omega
        have hinv := ofL_inv (L.take k)
        have hsn : ofL (L.take (k + 1)) = stepL (ofL (L.take k)) L[k] := by rw [List.take_succ_eq_append_getElem hlt, ofL_snoc]
        have hput := fun w hv => put_any (.slice q0 n0 cap0) (ofL (L.take k)) L[k].1 L[k].2 w hv hinv.1 hinv.2
        have hst : stepL (ofL (L.take k)) L[k] = if putOk (ofL (L.take k)) L[k].1 L[k].2 then putL (ofL (L.take k)) L[k].1 L[k].2 else ofL (L.take k) := rfl
        rw [hst] at hsn
        have Hsn := Lib.hid hsn
        have Hput := Lib.hid hput
        clear hsn hput hst hinv
        generalize L[k].1 = a1 at *
        generalize L[k].2 = a2 at *
        have kr1 := kr.alloc (.cells #[.string a1, .string a2] 62)
        have kd1 := kd.alloc (.cells #[.string a1, .string a2] 62)
        have hB1 := BW_alloc hB (.cells #[.string a1, .string a2] 62)
        have hd1 := hd.out.on (BW_alloc (BW_refl wr) (.cells #[.string a1, .string a2] 62))
        have Hd1 := Lib.hid hd1
        clear cd hd1
        have cd := fun i => kd1.cell i
        go_wp2_with fail
        refine (Hput.out _ Hd1.out).mono ?_
        rintro e w1 ⟨v1, c, rfl, hcase, hb1⟩
        have kr2 := (kr1.on hb1).alloc (.cells #[v1] 27)
        have kd2 := (kd1.on hb1).alloc (.cells #[v1] 27)
        have kn2 := Blk.new w1 27 #[v1]
        have hB2 := BW_alloc (BW_on hB1 hb1) (.cells #[v1] 27)
        have hd2 := (Hd1.out.on hb1).on (BW_alloc (BW_refl w1) (.cells #[v1] 27))
        have Hd2 := Lib.hid hd2
        have Hcase := Lib.hid hcase
        clear cd hcase hd2
        have cn := fun i => kn2.cell i
        have fd := fun i => kd2.free i
        have cd := fun i => kd2.cell i
        rcases Hcase.out with ⟨hok, rfl, hen⟩ | ⟨hno, hcc, rfl⟩
        · have hs2 := Lib.hid (Hsn.out.trans (if_pos hok))
          have hen2 := hen.on (BW_alloc (BW_refl w1) (.cells #[v1] 27))
          rw [← hs2.out] at hen2
          have Hen := Lib.hid hen2
          clear hok hen hen2
          obtain ⟨q1, cap1, n1, rfl⟩ : ∃ q1 cap1 n1, v1 = .slice q1 n1 cap1 := by obtain ⟨q, c, h⟩ := Hen.out.len; exact ⟨q, c, _, h⟩
          go_wp2_with fail
          go_roundw
          case rel => exact ⟨k + 1, _, by omega, by go_num, Hen.out.box kd2 _, kr2.off (by simp) _, kd2.set_ 0 _, BW_off (by simp) _ hB2⟩
          case measure => simp [intOf]; omega
        · have hs2 := Lib.hid (Hsn.out.trans (if_neg hno))
          have hc0 : ((c : Int) == 0) = false := by rcases hcc with rfl | rfl <;> rfl
          clear hno hcc
          go_wp2_with fail
          go_roundw
          case rel => exact ⟨k + 1, .slice q0 n0 cap0, by omega, by go_num, by rw [hs2.out]; exact Hd2.out, kr2, kd2, hB2⟩
          case measure => simp [intOf]; omega
      · obtain rfl : k = L.length := by omega
        rw [List.take_length] at hd
        have fr := fun i => kr.free i
        have cr := fun i => kr.cell i
        go_wp2_with fail
        have hcc := fun i => (kr.set_ 0 (.slice q0 n0 cap0)).cell i
        refine bodyPost_ret (v := .agg #[.slice q0 n0 cap0]) (by simp [results, Tryz.results8, go_sem, hcc]) rfl ⟨_, rfl, hd.out.box kr _, BW_off (by simp) _ hB⟩
end Go.Proofs.YtpcdgljcpacpiaaGreatDoor
namespace Go.Proofs.YtpcdgljcpacpiaaGreatDoor
open Go.RowKit
attribute [local go_sem ↓] Go.wp_at_zero Go.wp_at_succ
def hp (s p : ByteArray) : Bool := Lib.hasPrefix s.data.toList p.data.toList
def underL (E : List Ent) (p : ByteArray) : List Ent := (E.drop (pos E p)).takeWhile fun x => hp x.1 p
theorem takeWhile_take {α : Type} (f : α → Bool) (F : List α) (t : Nat) (h : ∀ j (hj : j < F.length), j < t → f F[j] = true) (ht : t ≤ F.length) (he : t = F.length ∨ ∃ h : t < F.length, f F[t] = false) : F.takeWhile f = F.take t := by
  induction F generalizing t with
  | nil => simp
  | cons x F ih =>
    cases t with
    | zero =>
      rcases he with he | ⟨h1, h2⟩
      · simp at he
      · rw [List.takeWhile_cons]
        simp at h2
        simp [h2]
    | succ t =>
      have h00 : f x = true := h 0 (by simp) (by omega)
      rw [List.takeWhile_cons, if_pos h00, List.take_succ_cons]
      congr 1
      refine ih t (fun j hj hjt => h (j + 1) (by simpa using hj) (by omega)) (by simpa using ht) ?_
      rcases he with he | ⟨h1, h2⟩
      · left; simpa using he
      · exact .inr ⟨by simpa using h1, by simpa using h2⟩
end Go.Proofs.YtpcdgljcpacpiaaGreatDoor
namespace Go.Proofs.YtpcdgljcpacpiaaGreatDoor
open Go.RowKit
attribute [local go_sem ↓] Go.wp_at_zero Go.wp_at_succ
theorem Ents.form {w : World} {v : Value} {E : List Ent} (h : Ents w v E) : ∃ p cap, v = .slice p E.length cap ∧ E.length ≤ cap ∧ cap ≤ 9223372036854775807 ∧ (0 < E.length → ∃ g off, p = some ⟨g, off, none⟩ ∧ EntC w g off E) := by
  rcases h with ⟨rfl, q, cap, rfl, hc⟩ | ⟨h0, g, off, cap, rfl, h1, h2, h3⟩
  · exact ⟨q, cap, rfl, Nat.zero_le _, hc, fun h => absurd h (Nat.lt_irrefl _)⟩
  · exact ⟨_, cap, rfl, h1, h2, fun _ => ⟨g, off, rfl, h3⟩⟩
set_option maxHeartbeats 1000000 in
theorem rsame_any (v1 v2 : Value) (E F : List Ent) (w : World) (hv : Ents w v1 E) (hu : Ents w v2 F) (hl : E.length ≤ 1000000) (hl2 : F.length ≤ 1000000) :
    Calls Tryz.prog 16 #[v1, v2] w fun e w' => e = .returned (.bool (decide (E = F))) ∧ Below w.heap.size w w' := by
  obtain ⟨p, cap, rfl, _, _, hf⟩ := hv.form
  obtain ⟨p2, cap2, rfl, _, _, hf2⟩ := hu.form
  by_cases hlen : E.length = F.length
  · rw [← hlen]
    have Hlen := Lib.hid hlen
    have Hf := Lib.hid hf
    have Hf2 := Lib.hid hf2
    clear hf hf2 hlen hv hu hl2
    go_enter Tryz.func16, Tryz.ntmps16
    go_wp2_with fail
    go_loopw [5] (fun i wr => ∃ k : Nat, k ≤ E.length ∧ i = .int .i64 (k : Int) ∧ Hid (∀ j (h1 : j < E.length) (h2 : j < F.length), j < k → E[j] = F[j]) ∧ Below w.heap.size w wr) (fun i _ => E.length - (intOf i).toNat)
    case atStart => exact ⟨0, by omega, rfl, fun j _ _ h => absurd h (Nat.not_lt_zero _), Below.refl _ _⟩
    case round =>
      obtain ⟨k, hk, rfl, hinv, hb⟩ := hrel
      by_cases hlt : k < E.length
      · have hlt2 : k < F.length := by rw [← Hlen.out]; exact hlt
        obtain ⟨g, off, rfl, hent⟩ := Hf.out (by omega)
        obtain ⟨g2, off2, rfl, hent2⟩ := Hf2.out (by omega)
        have hc := (hent.on hb) k hlt
        have hd := (hent2.on hb) k hlt2
        have hk1 : (k : Int) < (E.length : Int) := by omega
        clear hent hent2 Hf Hf2
        by_cases he : E[k] = F[k]
        · have hinv' : Hid (∀ j (h1 : j < E.length) (h2 : j < F.length), j < k + 1 → E[j] = F[j]) := fun j h1 h2 h3 => by
            by_cases h4 : j < k
            · exact hinv.out j h1 h2 h4
            · obtain rfl : j = k := by omega
              exact he
          rw [← he] at hd
          have hE := ent_eq E[k].1 E[k].2
          clear he
          generalize E[k].1 = a1 at *
          generalize E[k].2 = a2 at *
          go_wp2_with fail
          go_quiet (fail)
          go_wp2_with fail
          go_roundw
          case rel => exact ⟨k + 1, by omega, by go_num, hinv', below_drewN hb _⟩
          case measure => simp [intOf]; omega
        · have hE := ent_neq (a := E[k].1) (b := E[k].2) (c := F[k].1) (d := F[k].2) he
          have hne : decide (E = F) = false := by
            rw [decide_eq_false_iff_not]
            rintro rfl
            exact he rfl
          have Hne := Lib.hid hne
          clear he hne
          generalize E[k].1 = a1 at *
          generalize E[k].2 = a2 at *
          generalize F[k].1 = b1 at *
          generalize F[k].2 = b2 at *
          go_wp2_with fail
          go_quiet (fail)
          go_wp2_with fail
          go_ret
          exact ⟨by rw [Hne.out]; rfl, below_drewN hb _⟩
      · obtain rfl : k = E.length := by omega
        have he : E = F := list_eq_of Hlen.out (fun j h1 h2 => hinv.out j h1 h2 h1)
        have He : Hid (decide (E = F) = true) := decide_eq_true he
        clear he
        go_wp2_with fail
        go_ret
        exact ⟨by rw [He.out]; rfl, hb⟩
  · have hne : decide (E = F) = false := by
      rw [decide_eq_false_iff_not]
      rintro rfl
      exact hlen rfl
    rw [hne]
    have h1 : ((E.length : Int) != (F.length : Int)) = true := by simp; omega
    clear hne hv hu hlen hf hf2
    go_enter Tryz.func16, Tryz.ntmps16
    go_wp2_with fail
    go_ret
    exact ⟨rfl, Below.refl _ _⟩
theorem get_first {E : List Ent} {k : ByteArray} {i : Nat} (hi : i < E.length) (hb : ∀ j (hj : j < E.length), j < i → E[j].1 ≠ k) (he : E[i].1 = k) : getL E k = some E[i].2 := by
  unfold getL
  have : E.find? (fun x => decide (x.1 = k)) = some E[i] := by
    rw [List.find?_eq_some_iff_getElem]
    refine ⟨by simpa using he, i, hi, rfl, fun j hj => ?_⟩
    have := hb j (by omega) hj
    simpa using this
  rw [this]; rfl
theorem get_last {E : List Ent} {k : ByteArray} (hb : ∀ j (hj : j < E.length), E[j].1 ≠ k) : getL E k = none := by
  unfold getL
  have : E.find? (fun x => decide (x.1 = k)) = none := by
    rw [List.find?_eq_none]
    intro x hx
    obtain ⟨j, hj, rfl⟩ := List.mem_iff_getElem.1 hx
    simpa using hb j hj
  rw [this]; rfl
set_option maxHeartbeats 1000000 in
theorem rget_any (v : Value) (E : List Ent) (key : ByteArray) (w : World) (hv : Ents w v E) (hl : E.length ≤ 1000000) :
    Calls Tryz.prog 77 #[v, .string key] w fun e w' => e = .returned (.tuple #[.string (gv E key), .bool (hasK E key)]) ∧ w = w' := by
  obtain ⟨p, cap, rfl, _, _, hf⟩ := hv.form
  have Hf := Lib.hid hf
  clear hf hv
  go_enter Tryz.func77, Tryz.ntmps77
  go_wp2_with fail
  go_loop [6] (fun i => ∃ k : Nat, k ≤ E.length ∧ i = .int .i64 (k : Int) ∧ Hid (∀ j (hj : j < E.length), j < k → E[j].1 ≠ key)) (fun i => E.length - (intOf i).toNat)
  case atStart => exact ⟨0, by omega, rfl, fun j _ h => absurd h (Nat.not_lt_zero _)⟩
  case round =>
    obtain ⟨k, hk, rfl, hinv⟩ := hrel
    by_cases hlt : k < E.length
    · obtain ⟨g, off, rfl, hent⟩ := Hf.out (by omega)
      have hc := hent k hlt
      have hk1 : (k : Int) < (E.length : Int) := by omega
      have hbe := beq_kl E[k].1 key
      clear hent Hf
      by_cases he : E[k].1 = key
      · have hg := get_first hlt hinv.out he
        have hh : hasK E key = true := by rw [← get_has, hg]; rfl
        have hgv : gv E key = E[k].2 := by unfold gv; rw [hg]; rfl
        have Hh := Lib.hid hh
        have Hgv := Lib.hid hgv
        rw [decide_eq_true he] at hbe
        clear hg hh hgv he
        generalize E[k].1 = a1 at *
        generalize E[k].2 = a2 at *
        go_wp2_with fail
        go_ret2
        exact ⟨by rw [Hh.out, Hgv.out]; rfl, rfl⟩
      · rw [decide_eq_false he] at hbe
        have hinv' : Hid (∀ j (hj : j < E.length), j < k + 1 → E[j].1 ≠ key) := fun j h1 h3 => by
          by_cases h4 : j < k
          · exact hinv.out j h1 h4
          · obtain rfl : j = k := by omega
            exact he
        clear he
        generalize E[k].1 = a1 at *
        generalize E[k].2 = a2 at *
        go_wp2_with fail
        go_round
        case rel => exact ⟨k + 1, by omega, by go_num, hinv'⟩
        case measure => simp [intOf]; omega
    · obtain rfl : k = E.length := by omega
      have hg := get_last (fun j hj => hinv.out j hj hj)
      have hh : hasK E key = false := by rw [← get_has, hg]; rfl
      have hgv : gv E key = ⟨#[]⟩ := by unfold gv; rw [hg]; rfl
      have Hh := Lib.hid hh
      have Hgv := Lib.hid hgv
      clear hg hh hgv
      go_wp2_with fail
      go_ret2
      exact ⟨by rw [Hh.out, Hgv.out]; rfl, rfl⟩
end Go.Proofs.YtpcdgljcpacpiaaGreatDoor
namespace Go.Proofs.YtpcdgljcpacpiaaGreatDoor
open Go.RowKit
attribute [local go_sem ↓] Go.wp_at_zero Go.wp_at_succ
theorem hp_take (a p : ByteArray) : ((a.extract 0 p.size).toList == p.toList) = hp a p := by
  have e : (a.extract 0 p.size).toList = a.data.toList.take p.size := by
    rw [ByteArray.toList_eq]
    simp [ByteArray.extract, ByteArray.copySlice]
  rw [e, ByteArray.toList_eq]
  unfold hp Lib.hasPrefix
  rw [Bool.eq_iff_iff, beq_iff_eq, List.isPrefixOf_iff_prefix, List.prefix_iff_eq_take]
  have hl : p.data.toList.length = p.size := Array.length_toList
  rw [hl]
  exact ⟨fun h => h.symm, fun h => h.symm⟩
theorem hp_short {a p : ByteArray} (h : ¬ p.size ≤ a.size) : ¬ hp a p = true := by
  unfold hp Lib.hasPrefix
  rw [List.isPrefixOf_iff_prefix]
  intro hpre
  have h1 := hpre.length_le
  rw [Array.length_toList, Array.length_toList] at h1
  exact h h1
set_option maxHeartbeats 1000000 in
theorem rdrop_any (v : Value) (E : List Ent) (key : ByteArray) (w : World) (hv : Ents w v E) (hl : E.length ≤ 1000000) :
    Calls Tryz.prog 102 #[v, .string key] w fun e w' => ∃ v', e = .returned (.tuple #[v', .bool (decide ((E.filter (fun x => decide (x.1 ≠ key))).length < E.length))]) ∧ w'.ownsRow w.heap.size 62 2 v' (E.filter (fun x => decide (x.1 ≠ key))).length (entV (E.filter (fun x => decide (x.1 ≠ key)))) ∧ Below w.heap.size w w' := by
  obtain ⟨i0, hi0, hz0, hz1, hz2⟩ := info_parts infoE
  obtain ⟨p0, cap, rfl, _, _, hf⟩ := hv.form
  have Hf := Lib.hid hf
  clear hf hv
  go_enter Tryz.func102, Tryz.ntmps102
  go_wp2_with fail
  go_loopw [6, 7] (fun o i wr => ∃ (k m : Nat), k ≤ E.length ∧ i = .int .i64 (k : Int) ∧ m ≤ k ∧ Hid (m = ((E.take k).filter (fun x => decide (x.1 ≠ key))).length) ∧ wr.ownsRow w.heap.size 62 2 o m (entV ((E.take k).filter (fun x => decide (x.1 ≠ key)))) ∧ Below w.heap.size w wr) (fun _ i _ => E.length - (intOf i).toNat)
  case atStart => exact ⟨0, 0, by omega, rfl, by omega, rfl, World.ownsRow_nil _ _ _ _, Below.refl _ _⟩
  case round =>
    obtain ⟨k, m, hk, rfl, hmk, hm, hown, hb⟩ := hrel
    by_cases hlt : k < E.length
    · obtain ⟨g, off, rfl, hent⟩ := Hf.out (by omega)
      have hc := (hent.on hb) k hlt
      have hk1 : (k : Int) < (E.length : Int) := by omega
      have htk : (E.take (k + 1)).filter (fun x => decide (x.1 ≠ key)) = (E.take k).filter (fun x => decide (x.1 ≠ key)) ++ if (decide (E[k].1 ≠ key)) then [E[k]] else [] := by
        rw [List.take_succ_eq_append_getElem hlt, List.filter_append, List.filter_cons, List.filter_nil]
      have hev : ∀ x : Ent, entV [x] = [.string x.1, .string x.2] := fun _ => rfl
      have hhd : (E[k].1, E[k].2) = E[k] := rfl
      have hsz := hb.size
      clear hent Hf
      by_cases he : E[k].1 = key
      · have hcond : ¬ (decide (E[k].1 ≠ key) = true) := by simp [he]
        have hbe := beq_kl E[k].1 key
        rw [decide_eq_true he] at hbe
        clear he
        have htk2 : ((E.take (k + 1)).filter (fun x => decide (x.1 ≠ key))) = (E.take k).filter (fun x => decide (x.1 ≠ key)) := by rw [htk, if_neg hcond, List.append_nil]
        have hmm : Hid (m = ((E.take (k + 1)).filter (fun x => decide (x.1 ≠ key))).length) := by show _ = _; rw [htk2]; exact hm.out
        have Htk2 := Lib.hid htk2
        clear htk htk2 hcond hev hhd
        generalize E[k].1 = a1 at *
        generalize E[k].2 = a2 at *
        go_wp2_with fail
        go_roundw
        case rel => exact ⟨k + 1, m, by omega, by go_num, by omega, hmm, by rw [Htk2.out]; exact hown, hb⟩
        case measure => simp [intOf]; omega
      · have hcond : decide (E[k].1 ≠ key) = true := by simp [he]
        have hbe := beq_kl E[k].1 key
        rw [decide_eq_false he] at hbe
        clear he
        have htk2 : ((E.take (k + 1)).filter (fun x => decide (x.1 ≠ key))) = (E.take k).filter (fun x => decide (x.1 ≠ key)) ++ [E[k]] := by rw [htk, if_pos hcond]
        have hvv : entV ((E.take (k + 1)).filter (fun x => decide (x.1 ≠ key))) = entV ((E.take k).filter (fun x => decide (x.1 ≠ key))) ++ [.string E[k].1, .string E[k].2] := by rw [htk2, entV_app]; rfl
        have hmm : Hid (m + 1 = ((E.take (k + 1)).filter (fun x => decide (x.1 ≠ key))).length) := by show _ = _; rw [htk2, List.length_append, ← hm.out]; rfl
        have Hvv := Lib.hid hvv
        clear htk htk2 hvv hcond hev hhd
        generalize E[k].1 = a1 at *
        generalize E[k].2 = a2 at *
        go_wp2_with (at_builtin; go_must (refine wpList_push_at rfl _ _ 24 rfl w.heap.size 62 i0 (.agg #[.string ⟨#[]⟩, .string ⟨#[]⟩]) 2 32 Tryz.underlying24 hi0 hz0 hz1 hz2 rfl (by decide) _ _ _ rfl hown [.string a1, .string a2] _ rfl rfl rfl rfl (by unfold maxLen; omega) (by omega) (by omega) ?_); intro v1 w3 hown3 hb3 hz3)
        rw [← Hvv.out] at hown3
        go_roundw
        case rel => exact ⟨k + 1, m + 1, by omega, by go_num, by omega, hmm, hown3, hb.trans hb3⟩
        case measure => simp [intOf]; omega
    · obtain rfl : k = E.length := by omega
      rw [List.take_length] at hown hm
      have Hm := Lib.hid hm.out
      have hcl := hl
      have hle : m ≤ E.length := hmk
      obtain ⟨q, cp, rfl⟩ : ∃ q cp, u6 = .slice q m cp := by
        have h2 := hown
        rw [Hm.out] at h2
        obtain ⟨q, cp, h3⟩ := (own_ents h2).len
        rw [← Hm.out] at h3
        exact ⟨q, cp, h3⟩
      go_wp2_with fail
      go_ret2
      have hd : decide ((m : Int) < (E.length : Int)) = decide (m < E.length) := by simp
      exact ⟨.slice q m cp, by rw [← Hm.out, ← hd]; rfl, by rw [← Hm.out]; exact hown, hb⟩
end Go.Proofs.YtpcdgljcpacpiaaGreatDoor
namespace Go.Proofs.YtpcdgljcpacpiaaGreatDoor
open Go.RowKit
attribute [local go_sem ↓] Go.wp_at_zero Go.wp_at_succ
/-- What has been put together once i entries have been looked at. -/
def PartR (E : List Ent) (P h : Nat) (k x : ByteArray) (i : Nat) (b : Bool) (F : List Ent) : Prop :=
  (i ≤ P ∧ b = false ∧ F = E.take i) ∨ (P < i ∧ b = true ∧ F = E.take P ++ (k, x) :: (E.take i).drop (P + h))
theorem PartR.s1 {E : List Ent} {P h : Nat} {k x : ByteArray} {i : Nat} {b : Bool} {F : List Ent} (hp : PartR E P h k x i b F) (hi : i < P) (hl : i < E.length) : b = false ∧ PartR E P h k x (i + 1) false (F ++ [E[i]]) := by
  rcases hp with ⟨_, rfl, rfl⟩ | ⟨h1, _⟩
  · exact ⟨rfl, .inl ⟨hi, rfl, by rw [List.take_succ_eq_append_getElem hl]⟩⟩
  · omega
theorem PartR.s2 {E : List Ent} {P h : Nat} {k x : ByteArray} {b : Bool} {F : List Ent} (hp : PartR E P h k x P b F) (h0 : h = 0) (hl : P < E.length) : b = false ∧ PartR E P h k x (P + 1) true (F ++ [(k, x)] ++ [E[P]]) := by
  rcases hp with ⟨_, rfl, rfl⟩ | ⟨h1, _⟩
  · refine ⟨rfl, .inr ⟨by omega, rfl, ?_⟩⟩
    rw [h0, Nat.add_zero, List.take_succ_eq_append_getElem hl, List.drop_append_of_le_length (by rw [List.length_take]; omega), List.drop_eq_nil_of_le (by rw [List.length_take]; omega)]
    simp
  · omega
theorem PartR.s3 {E : List Ent} {P h : Nat} {k x : ByteArray} {b : Bool} {F : List Ent} (hp : PartR E P h k x P b F) (h0 : h = 1) (hl : P < E.length) : b = false ∧ PartR E P h k x (P + 1) true (F ++ [(k, x)]) := by
  rcases hp with ⟨_, rfl, rfl⟩ | ⟨h1, _⟩
  · refine ⟨rfl, .inr ⟨by omega, rfl, ?_⟩⟩
    rw [h0, List.drop_eq_nil_of_le (by rw [List.length_take]; omega)]
  · omega
theorem PartR.s4 {E : List Ent} {P h : Nat} {k x : ByteArray} {i : Nat} {b : Bool} {F : List Ent} (hp : PartR E P h k x i b F) (hi : P < i) (hh : h ≤ 1) (hl : i < E.length) : b = true ∧ PartR E P h k x (i + 1) true (F ++ [E[i]]) := by
  rcases hp with ⟨h1, _⟩ | ⟨_, rfl, rfl⟩
  · omega
  · refine ⟨rfl, .inr ⟨by omega, rfl, ?_⟩⟩
    rw [List.take_succ_eq_append_getElem hl, List.drop_append_of_le_length (by rw [List.length_take]; omega)]
    simp
theorem PartR.len {E : List Ent} {P h : Nat} {k x : ByteArray} {i : Nat} {b : Bool} {F : List Ent} (hp : PartR E P h k x i b F) (hi : i ≤ E.length) : F.length ≤ i + 1 := by
  rcases hp with ⟨_, _, rfl⟩ | ⟨h1, _, rfl⟩
  · rw [List.length_take]; omega
  · rw [List.length_append, List.length_cons, List.length_take, List.length_drop, List.length_take]; omega
theorem PartR.lenP {E : List Ent} {P h : Nat} {k x : ByteArray} {b : Bool} {F : List Ent} (hp : PartR E P h k x P b F) : F.length ≤ P := by
  rcases hp with ⟨_, _, rfl⟩ | ⟨h1, _, rfl⟩
  · rw [List.length_take]; omega
  · omega
theorem PartR.fin {E : List Ent} {h : Nat} {k x : ByteArray} {b : Bool} {F : List Ent} (hp : PartR E (pos E k) h k x E.length b F) (hh : h = hitN E k) (hz : pos E k = E.length → h = 0) :
    (pos E k < E.length ∧ b = true ∧ F = putL E k x) ∨ (b = false ∧ F ++ [(k, x)] = putL E k x) := by
  have hle := pos_le E k
  rcases hp with ⟨h1, rfl, rfl⟩ | ⟨h1, rfl, rfl⟩
  · right
    have e : pos E k = E.length := by omega
    refine ⟨rfl, ?_⟩
    unfold putL
    rw [← hh, hz e, e, List.take_length, List.drop_eq_nil_of_le (by omega)]
  · left
    refine ⟨h1, rfl, ?_⟩
    unfold putL
    rw [← hh, List.take_length]
set_option maxHeartbeats 1000000 in
theorem rput_size (v : Value) (k x : ByteArray) (w : World) (h : 400 < k.size ∨ 4000 < x.size) :
    Calls Tryz.prog 103 #[v, .string k, .string x] w fun e w' => e = .returned (.tuple #[.slice none 0 0, .int .i64 11]) ∧ Below w.heap.size w w' := by
  have h' : (400 : Int) < (k.size : Int) ∨ (¬ (400 : Int) < (k.size : Int) ∧ (4000 : Int) < (x.size : Int)) := by omega
  have H' := Lib.hid h'
  clear h h'
  rcases H'.out with h1 | ⟨h1, h2⟩
  all_goals
    go_enter Tryz.func103, Tryz.ntmps103
    go_wp2_with fail
    go_ret2
    exact ⟨rfl, Below.refl _ _⟩
set_option maxHeartbeats 1000000 in
theorem rput_full (v : Value) (E : List Ent) (k x : ByteArray) (w : World) (hv : Ents w v E) (hl : E.length = 2000) (hk : k.size ≤ 400) (hx : x.size ≤ 4000) (hh : hasK E k = false) :
    Calls Tryz.prog 103 #[v, .string k, .string x] w fun e w' => e = .returned (.tuple #[.slice none 0 0, .int .i64 15]) ∧ Below w.heap.size w w' := by
  have hget := fun w hv => rget_any v E k w hv (by omega)
  rw [hh] at hget
  obtain ⟨q, cap, hq⟩ := hv.len
  rw [hl] at hq
  subst hq
  have Hv := Lib.hid hv
  have Hget := Lib.hid hget
  clear hget hh hv hl
  have hk1 : ¬ ((400 : Int) < (k.size : Int)) := by omega
  have hx1 : ¬ ((4000 : Int) < (x.size : Int)) := by omega
  go_enter Tryz.func103, Tryz.ntmps103
  go_wp2_with fail
  refine (Hget.out _ Hv.out).mono ?_
  rintro e w1 ⟨rfl, rfl⟩
  go_wp2_with fail
  go_ret2
  exact ⟨rfl, Below.refl _ _⟩
set_option maxHeartbeats 2000000 in
set_option maxRecDepth 100000 in
theorem rput_ok (v : Value) (E : List Ent) (k x : ByteArray) (w : World) (hv : Ents w v E) (hs : Srt E) (hl : E.length ≤ 2000) (hok : putOk E k x) :
    Calls Tryz.prog 103 #[v, .string k, .string x] w fun e w' => ∃ v', e = .returned (.tuple #[v', .int .i64 0]) ∧ Ents w' v' (putL E k x) ∧ Below w.heap.size w w' := by
  obtain ⟨i0, hi0, hz0, hz1, hz2⟩ := info_parts infoE
  have hget := fun w hv => rget_any v E k w hv (by omega)
  obtain ⟨p0, cap, rfl, _, _, hf⟩ := hv.form
  have hple := pos_le E k
  have hh1 : hitN E k ≤ 1 := by unfold hitN; split <;> omega
  have hhz : pos E k = E.length → hitN E k = 0 := by
    intro e
    have := hit_le hs k
    omega
  have hok3 := hok.2.2
  have hk1 : ¬ ((400 : Int) < (k.size : Int)) := by have := hok.1; omega
  have hx1 : ¬ ((4000 : Int) < (x.size : Int)) := by have := hok.2.1; omega
  have hfull : hasK E k = true ∨ (hasK E k = false ∧ ¬ (2000 : Int) ≤ (E.length : Int)) := by
    rcases hok3 with h | h
    · exact .inl h
    · cases hh : hasK E k
      · exact .inr ⟨rfl, by omega⟩
      · exact .inl rfl
  have Hfull := Lib.hid hfull
  have Hf := Lib.hid hf
  have Hs := Lib.hid hs
  have Hv := Lib.hid hv
  have Hget := Lib.hid hget
  have Hhz := Lib.hid hhz
  clear hf hv hs hget hok3 hok hfull hhz
  have hstart : ∃ bb : Bool, bb = hasK E k := ⟨_, rfl⟩
  rcases Hfull.out with hh | ⟨hh, hl2⟩
  all_goals
    rw [hh] at Hget
    clear hh
    go_enter Tryz.func103, Tryz.ntmps103
    go_wp2_with fail
    refine (Hget.out _ Hv.out).mono ?_
    rintro e w1 ⟨rfl, rfl⟩
    go_wp2_with fail
    go_loopw [10, 11, 12] (fun o b i wr => ∃ (j m : Nat) (c : Bool) (F : List Ent), j ≤ E.length ∧ i = .int .i64 (j : Int) ∧ b = .bool c ∧ Hid (PartR E (pos E k) (hitN E k) k x j c F ∧ m = F.length) ∧ m ≤ j + 1 ∧ wr.ownsRow w.heap.size 62 2 o m (entV F) ∧ Below w.heap.size w wr) (fun _ _ i _ => E.length - (intOf i).toNat)
    case atStart => exact ⟨0, 0, false, [], by omega, rfl, rfl, ⟨.inl ⟨by omega, rfl, rfl⟩, rfl⟩, by omega, World.ownsRow_nil _ _ _ _, Below.refl _ _⟩
    case round =>
      obtain ⟨j, m, c, F, hj, rfl, rfl, hpart, hm, hown, hb⟩ := hrel
      by_cases hlt : j < E.length
      · obtain ⟨g, off, rfl, hent⟩ := Hf.out (by omega)
        have hc := (hent.on hb) j hlt
        have HcW : Hid (∀ W, Below w.heap.size w W → W.cell? ⟨g, off + j * 2, none⟩ = some (.string E[j].1) ∧ W.cell? ⟨g, off + j * 2 + 1, none⟩ = some (.string E[j].2)) := fun W hW => (hent.on hW) j hlt
        have hk1' : (j : Int) < (E.length : Int) := by omega
        have hbl := bless_klt E[j].1 k
        have hbe := beq_kl E[j].1 k
        have hsz := hb.size
        have hev : ∀ (G : List Ent) (y : Ent), entV (G ++ [y]) = entV G ++ [.string y.1, .string y.2] := fun G y => by rw [entV_app]; rfl
        have Hev := Lib.hid hev
        clear hent Hf hev
        rcases Nat.lt_trichotomy j (pos E k) with h1 | h1 | h1
        · obtain ⟨rfl, hp2⟩ := hpart.out.1.s1 h1 hlt
          rw [decide_eq_true (pos_lt h1 hlt)] at hbl
          rw [decide_eq_false (pos_ne h1 hlt)] at hbe
          have hpart2 := Lib.hid (And.intro hp2 (show m + 1 = (F ++ [E[j]]).length by rw [List.length_append, ← hpart.out.2]; rfl))
          have hvv := Hev.out F E[j]
          have Hvv := Lib.hid hvv
          clear hp2 hvv
          generalize E[j].1 = a1 at *
          generalize E[j].2 = a2 at *
          go_wp2_with (at_builtin; go_must (refine wpList_push_at rfl _ _ 24 rfl w.heap.size 62 i0 (.agg #[.string ⟨#[]⟩, .string ⟨#[]⟩]) 2 32 Tryz.underlying24 hi0 hz0 hz1 hz2 rfl (by decide) _ _ _ rfl hown [.string a1, .string a2] _ rfl rfl rfl rfl (by unfold maxLen; omega) (by omega) (by omega) ?_); intro v1 w3 hown3 hb3 hz3)
          rw [← Hvv.out] at hown3
          go_roundw
          case rel => exact ⟨j + 1, m + 1, false, _, by omega, by go_num, rfl, hpart2, by omega, hown3, hb.trans hb3⟩
          case measure => simp [intOf]; omega
        · subst h1
          have hm' : m ≤ pos E k := by have := hpart.out.1.lenP; have := hpart.out.2; omega
          rw [decide_eq_false (pos_ge Hs.out (Nat.le_refl _) hlt)] at hbl
          have hvv1 := Hev.out F (k, x)
          have Hvv1 := Lib.hid hvv1
          clear hvv1
          by_cases he : E[pos E k].1 = k
          · have hh1' : hitN E k = 1 := by
              have := (has_iff Hs.out k).2 ⟨hlt, he⟩
              unfold hitN
              rw [this]; rfl
            obtain ⟨rfl, hp2⟩ := hpart.out.1.s3 hh1' hlt
            rw [decide_eq_true he] at hbe
            have hpart2 := Lib.hid (And.intro hp2 (show m + 1 = (F ++ [(k, x)]).length by rw [List.length_append, ← hpart.out.2]; rfl))
            clear hp2 hh1' he
            generalize E[pos E k].1 = a1 at *
            generalize E[pos E k].2 = a2 at *
            go_wp2_with (at_builtin; (with_reducible refine wpList_push_at rfl _ _ 24 rfl w.heap.size 62 i0 (.agg #[.string ⟨#[]⟩, .string ⟨#[]⟩]) 2 32 Tryz.underlying24 hi0 hz0 hz1 hz2 rfl (by decide) _ _ _ rfl hown [.string k, .string x] _ rfl rfl rfl rfl (by unfold maxLen; omega) (by omega) (by omega) ?_); intro v1 w3 hown3 hb3 hz3; have hc3 := HcW.out _ (hb.trans hb3))
            rw [← Hvv1.out] at hown3
            go_roundw
            case rel => exact ⟨pos E k + 1, m + 1, true, _, by omega, by go_num, rfl, hpart2, by omega, hown3, hb.trans hb3⟩
            case measure => simp [intOf]; omega
          · have hh0 : hitN E k = 0 := by
              unfold hitN
              cases h : hasK E k
              · rfl
              · obtain ⟨_, h2⟩ := (has_iff Hs.out k).1 h
                exact absurd h2 he
            obtain ⟨rfl, hp2⟩ := hpart.out.1.s2 hh0 hlt
            rw [decide_eq_false he] at hbe
            have hpart2 := Lib.hid (And.intro hp2 (show m + 1 + 1 = (F ++ [(k, x)] ++ [E[pos E k]]).length by rw [List.length_append, List.length_append, ← hpart.out.2]; rfl))
            have hvv2 := Hev.out (F ++ [(k, x)]) E[pos E k]
            have Hvv2 := Lib.hid hvv2
            clear hp2 hh0 he hvv2
            generalize E[pos E k].1 = a1 at *
            generalize E[pos E k].2 = a2 at *
            go_wp2_with (first | (at_builtin; (with_reducible refine wpList_push_at rfl _ _ 24 rfl w.heap.size 62 i0 (.agg #[.string ⟨#[]⟩, .string ⟨#[]⟩]) 2 32 Tryz.underlying24 hi0 hz0 hz1 hz2 rfl (by decide) _ _ _ rfl hown [.string k, .string x] _ rfl rfl rfl rfl (by unfold maxLen; omega) (by omega) (by omega) ?_); intro v1 w3 hown3 hb3 hz3; have hc3 := HcW.out _ (hb.trans hb3); have hsz3 := Nat.le_trans hsz (Nat.le_of_lt hz3)) | (at_builtin; (with_reducible refine wpList_push_at rfl _ _ 24 rfl w.heap.size 62 i0 (.agg #[.string ⟨#[]⟩, .string ⟨#[]⟩]) 2 32 Tryz.underlying24 hi0 hz0 hz1 hz2 rfl (by decide) _ _ _ rfl hown3 [.string a1, .string a2] _ rfl rfl rfl rfl (by unfold maxLen; omega) (by omega) (by omega) ?_); intro v2 w4 hown4 hb4 hz4))
            rw [← Hvv1.out, ← Hvv2.out] at hown4
            go_roundw
            case rel => exact ⟨pos E k + 1, m + 1 + 1, true, _, by omega, by go_num, rfl, hpart2, by omega, hown4, (hb.trans hb3).trans hb4⟩
            case measure => simp [intOf]; omega
        · obtain ⟨rfl, hp2⟩ := hpart.out.1.s4 h1 hh1 hlt
          rw [decide_eq_false (pos_ne' Hs.out h1 hlt)] at hbe
          have hpart2 := Lib.hid (And.intro hp2 (show m + 1 = (F ++ [E[j]]).length by rw [List.length_append, ← hpart.out.2]; rfl))
          have hvv := Hev.out F E[j]
          have Hvv := Lib.hid hvv
          clear hp2 hvv
          generalize E[j].1 = a1 at *
          generalize E[j].2 = a2 at *
          go_wp2_with (at_builtin; (with_reducible refine wpList_push_at rfl _ _ 24 rfl w.heap.size 62 i0 (.agg #[.string ⟨#[]⟩, .string ⟨#[]⟩]) 2 32 Tryz.underlying24 hi0 hz0 hz1 hz2 rfl (by decide) _ _ _ rfl hown [.string a1, .string a2] _ rfl rfl rfl rfl (by unfold maxLen; omega) (by omega) (by omega) ?_); intro v2 w4 hown4 hb4 hz4)
          rw [← Hvv.out] at hown4
          go_roundw
          case rel => exact ⟨j + 1, m + 1, true, _, by omega, by go_num, rfl, hpart2, by omega, hown4, hb.trans hb4⟩
          case measure => simp [intOf]; omega
      · obtain rfl : j = E.length := by omega
        have hfin := hpart.out.1.fin rfl Hhz.out
        have Hm := Lib.hid hpart.out.2
        have hsz := hb.size
        have Hfin := Lib.hid hfin
        clear hfin hpart hlt
        rcases Hfin.out with ⟨_, rfl, hF⟩ | ⟨rfl, hF⟩
        · subst hF
          rw [Hm.out] at hown
          have hents := own_ents hown
          go_wp2_with fail
          go_ret2
          exact ⟨_, rfl, hents, hb⟩
        · have hvv : entV (F ++ [(k, x)]) = entV F ++ [.string k, .string x] := by rw [entV_app]; rfl
          have Hvv := Lib.hid hvv
          have HF := Lib.hid hF
          have hm2 : m + 1 = (F ++ [(k, x)]).length := by rw [List.length_append, ← Hm.out]; rfl
          have Hm2 := Lib.hid hm2
          clear hvv hF hm2
          go_wp2_with (at_builtin; (with_reducible refine wpList_push_at rfl _ _ 24 rfl w.heap.size 62 i0 (.agg #[.string ⟨#[]⟩, .string ⟨#[]⟩]) 2 32 Tryz.underlying24 hi0 hz0 hz1 hz2 rfl (by decide) _ _ _ rfl hown [.string k, .string x] _ rfl rfl rfl rfl (by unfold maxLen; omega) (by omega) (by omega) ?_); intro v1 w3 hown3 hb3 hz3)
          rw [← Hvv.out, Hm2.out] at hown3
          have hents := own_ents hown3
          rw [HF.out] at hents
          go_wp2_with fail
          go_ret2
          exact ⟨_, rfl, hents, hb.trans hb3⟩
end Go.Proofs.YtpcdgljcpacpiaaGreatDoor
namespace Go.Proofs.YtpcdgljcpacpiaaGreatDoor
open Go.RowKit
attribute [local go_sem ↓] Go.wp_at_zero Go.wp_at_succ
theorem rput_any (v : Value) (E : List Ent) (k x : ByteArray) (w : World) (hv : Ents w v E) (hs : Srt E) (hl : E.length ≤ 2000) :
    Calls Tryz.prog 103 #[v, .string k, .string x] w fun e w' => ∃ v' c, e = .returned (.tuple #[v', .int .i64 c]) ∧ ((putOk E k x ∧ c = 0 ∧ Ents w' v' (putL E k x)) ∨ (¬ putOk E k x ∧ (c = 11 ∨ c = 15) ∧ v' = .slice none 0 0)) ∧ Below w.heap.size w w' := by
  by_cases h1 : 400 < k.size ∨ 4000 < x.size
  · exact (rput_size v k x w h1).mono fun e w' ⟨he, hb⟩ => ⟨_, _, he, .inr ⟨fun h => by have := h.1; have := h.2.1; omega, .inl rfl, rfl⟩, hb⟩
  · by_cases hok : putOk E k x
    · exact (rput_ok v E k x w hv hs hl hok).mono fun e w' ⟨v', he, hen, hb⟩ => ⟨_, _, he, .inl ⟨hok, rfl, hen⟩, hb⟩
    · have hh : hasK E k = false := by
        cases hh : hasK E k with
        | false => rfl
        | true => exact absurd ⟨by omega, by omega, .inl hh⟩ hok
      have hl2 : E.length = 2000 := by
        rcases Nat.lt_or_ge E.length 2000 with h2 | h2
        · exact absurd ⟨by omega, by omega, .inr h2⟩ hok
        · omega
      exact (rput_full v E k x w hv hl2 (by omega) (by omega) hh).mono fun e w' ⟨he, hb⟩ => ⟨_, _, he, .inr ⟨hok, .inr rfl, rfl⟩, hb⟩
def sh (s : ByteArray) : ByteArray := if 12 < s.size then s.extract 0 12 else s
theorem sh_size (s : ByteArray) : (sh s).size ≤ 12 := by
  unfold sh
  split
  · simp; omega
  · omega
def shE (x : Ent) : Ent := (sh x.1, sh x.2)
def fewL (L : List Ent) : List Ent := (L.take 20).map shE
end Go.Proofs.YtpcdgljcpacpiaaGreatDoor
namespace Go.Proofs.YtpcdgljcpacpiaaGreatDoor
open Go.RowKit
attribute [local go_sem ↓] Go.wp_at_zero Go.wp_at_succ
theorem Ents.blk {w : World} {g : Nat} {t : TypeId} {E : List Ent} (h : Blk w g t (entV E).toArray) (h0 : 0 < E.length) (hm : E.length ≤ 9223372036854775807) : Ents w (.slice (some ⟨g, 0, none⟩) E.length E.length) E :=
  .inr ⟨h0, g, 0, E.length, rfl, Nat.le_refl _, hm, EntC.of fun j u hj => by rw [Nat.zero_add, h.cell]; simpa using hj⟩
def tA : ByteArray := ⟨#[97]⟩
def tB : ByteArray := ⟨#[98]⟩
def t1 : ByteArray := ⟨#[49]⟩
def t2 : ByteArray := ⟨#[50]⟩
def t3 : ByteArray := ⟨#[51]⟩
theorem awake_of : ofL [(tB, t1), (tA, t2), (tB, t3)] = [(tA, t2), (tB, t3)] := by decide +kernel
theorem drop_any (v : Value) (E : List Ent) (k : ByteArray) (w : World) (hv : Ents w v E) (hs : Srt E) (hl : E.length ≤ 2000) :
    Calls Tryz.prog 94 #[.agg #[v], .string k] w fun e w' => ∃ v', e = .returned (.tuple #[.agg #[v'], .bool (hasK E k)]) ∧ Ents w' v' (dropL E k) ∧ Below w.heap.size w w' := by
  cases hh : hasK E k with
  | true => exact drop_yes v E k w hv hs hl hh
  | false => exact (drop_no v E k w hv hs hl hh).mono fun e w' ⟨he, hb⟩ => ⟨v, he, by rw [drop_none hh]; exact hv.on hb, hb⟩
end Go.Proofs.YtpcdgljcpacpiaaGreatDoor
namespace Go.Proofs.YtpcdgljcpacpiaaGreatDoor
theorem srt_ext : ∀ {E F : List Ent}, Srt E → Srt F → (∀ x, x ∈ E ↔ x ∈ F) → E = F
  | [], [], _, _, _ => rfl
  | [], y :: F, _, _, h => absurd ((h y).2 List.mem_cons_self) (by simp)
  | x :: E, [], _, _, h => absurd ((h x).1 List.mem_cons_self) (by simp)
  | x :: E, y :: F, hE, hF, h => by
    obtain ⟨hx, hE'⟩ := List.pairwise_cons.1 hE
    obtain ⟨hy, hF'⟩ := List.pairwise_cons.1 hF
    have e : x = y := by
      rcases List.mem_cons.1 ((h x).1 List.mem_cons_self) with h1 | h1
      · exact h1
      · rcases List.mem_cons.1 ((h y).2 List.mem_cons_self) with h2 | h2
        · exact h2.symm
        · exact absurd (hy x h1) (klt_asymm (hx y h2))
    subst e
    congr 1
    refine srt_ext hE' hF' fun z => ⟨fun hz => ?_, fun hz => ?_⟩
    · rcases List.mem_cons.1 ((h z).1 (List.mem_cons_of_mem _ hz)) with h1 | h1
      · subst h1; exact absurd (hx z hz) (klt_irrefl _)
      · exact h1
    · rcases List.mem_cons.1 ((h z).2 (List.mem_cons_of_mem _ hz)) with h1 | h1
      · subst h1; exact absurd (hy z hz) (klt_irrefl _)
      · exact h1
theorem mem_take_pos {E : List Ent} (hs : Srt E) (k : ByteArray) (x : Ent) : x ∈ E.take (pos E k) ↔ x ∈ E ∧ klt x.1 k := by
  constructor
  · intro h
    obtain ⟨i, hi, hn, rfl⟩ := mem_take h
    exact ⟨List.getElem_mem hi, pos_lt hn hi⟩
  · rintro ⟨h, hk⟩
    obtain ⟨i, hi, rfl⟩ := List.mem_iff_getElem.1 h
    rcases Nat.lt_or_ge i (pos E k) with h1 | h1
    · exact List.mem_iff_getElem.2 ⟨i, by rw [List.length_take]; omega, by rw [List.getElem_take]⟩
    · exact absurd hk (pos_ge hs h1 hi)
theorem mem_drop_pos {E : List Ent} (hs : Srt E) (k : ByteArray) (x : Ent) : x ∈ E.drop (pos E k) ↔ x ∈ E ∧ ¬ klt x.1 k := by
  constructor
  · intro h
    obtain ⟨i, hi, hn, rfl⟩ := mem_drop h
    exact ⟨List.getElem_mem hi, pos_ge hs hn hi⟩
  · rintro ⟨h, hk⟩
    obtain ⟨i, hi, rfl⟩ := List.mem_iff_getElem.1 h
    rcases Nat.lt_or_ge i (pos E k) with h1 | h1
    · exact absurd (pos_lt h1 hi) hk
    · refine List.mem_iff_getElem.2 ⟨i - pos E k, by rw [List.length_drop]; omega, ?_⟩
      rw [List.getElem_drop]
      congr 1
      omega
theorem mem_behind {E : List Ent} (hs : Srt E) (k : ByteArray) (x : Ent) : x ∈ E.drop (pos E k + hitN E k) ↔ x ∈ E ∧ klt k x.1 := by
  constructor
  · intro h
    refine ⟨List.mem_of_mem_drop h, behind_gt hs h⟩
  · rintro ⟨h, hk⟩
    obtain ⟨i, hi, rfl⟩ := List.mem_iff_getElem.1 h
    have h2 : pos E k + hitN E k ≤ i := by
      rcases Nat.lt_trichotomy i (pos E k) with h1 | h1 | h1
      · exact absurd hk (klt_asymm (pos_lt h1 hi))
      · unfold hitN
        split
        · rename_i hh
          obtain ⟨h3, h4⟩ := (has_iff hs k).1 hh
          subst h1
          rw [h4] at hk
          exact absurd hk (klt_irrefl _)
        · omega
      · unfold hitN; split <;> omega
    refine List.mem_iff_getElem.2 ⟨i - (pos E k + hitN E k), by rw [List.length_drop]; omega, ?_⟩
    rw [List.getElem_drop]
    congr 1
    omega
theorem ne_of_parts {a k : ByteArray} : (klt a k ∨ klt k a) ↔ a ≠ k := by
  constructor
  · rintro (h | h)
    · exact klt_ne h
    · exact (klt_ne h).symm
  · intro h
    by_cases h1 : klt a k
    · exact .inl h1
    · by_cases h2 : klt k a
      · exact .inr h2
      · exact absurd (klt_tri h1 h2) h
theorem mem_put {E : List Ent} (hs : Srt E) (k v : ByteArray) (x : Ent) : x ∈ putL E k v ↔ x = (k, v) ∨ (x ∈ E ∧ x.1 ≠ k) := by
  unfold putL
  rw [List.mem_append, List.mem_cons, mem_take_pos hs, mem_behind hs, ← ne_of_parts]
  grind
theorem mem_dropL {E : List Ent} (hs : Srt E) (k : ByteArray) (x : Ent) : x ∈ dropL E k ↔ x ∈ E ∧ x.1 ≠ k := by
  unfold dropL
  rw [List.mem_append, mem_take_pos hs, mem_behind hs, ← ne_of_parts]
  grind
theorem Srt.filter {E : List Ent} (hs : Srt E) (p : Ent → Bool) : Srt (E.filter p) := List.Pairwise.filter p hs
theorem filter_drop {E : List Ent} (hs : Srt E) (k : ByteArray) : E.filter (fun x => decide (x.1 ≠ k)) = dropL E k :=
  srt_ext (hs.filter _) (drop_srt hs k) fun x => by rw [List.mem_filter, mem_dropL hs, decide_eq_true_eq]
theorem filter_drop_lt {E : List Ent} (hs : Srt E) (k : ByteArray) : decide ((E.filter (fun x => decide (x.1 ≠ k))).length < E.length) = hasK E k := by
  rw [filter_drop hs]
  have := drop_len hs k
  unfold hitN at this
  cases h : hasK E k <;> rw [h] at this <;> simp at this ⊢ <;> omega
theorem pos_mono {E : List Ent} (hs : Srt E) (a b : ByteArray) (x : Ent) : x ∈ (E.take (pos E b)).drop (pos E a) ↔ x ∈ E ∧ ¬ klt x.1 a ∧ klt x.1 b := by
  constructor
  · intro h
    have h1 := (mem_take_pos hs b x).1 (List.mem_of_mem_drop h)
    refine ⟨h1.1, ?_, h1.2⟩
    rw [List.drop_take] at h
    exact ((mem_drop_pos hs a x).1 (List.mem_of_mem_take h)).2
  · rintro ⟨h, ha, hb⟩
    obtain ⟨i, hi, rfl⟩ := List.mem_iff_getElem.1 h
    have h1 : i < pos E b := by
      rcases Nat.lt_or_ge i (pos E b) with h1 | h1
      · exact h1
      · exact absurd hb (pos_ge hs h1 hi)
    have h2 : pos E a ≤ i := by
      rcases Nat.lt_or_ge i (pos E a) with h2 | h2
      · exact absurd (pos_lt h2 hi) ha
      · exact h2
    refine List.mem_iff_getElem.2 ⟨i - pos E a, by rw [List.length_drop, List.length_take]; omega, ?_⟩
    rw [List.getElem_drop, List.getElem_take]
    congr 1
    omega
theorem range_srt {E : List Ent} (hs : Srt E) (a b : ByteArray) : Srt ((E.take (pos E b)).drop (pos E a)) := (hs.take _).drop _
theorem filter_range {E : List Ent} (hs : Srt E) (a b : ByteArray) : E.filter (fun x => (!decide (klt x.1 a) && decide (klt x.1 b))) = (E.take (pos E b)).drop (pos E a) :=
  srt_ext (hs.filter _) (range_srt hs a b) fun x => by rw [List.mem_filter, pos_mono hs]; simp
theorem pre_between : ∀ (p x y : List UInt8), ¬ x < p → x < y → p.isPrefixOf y = true → p.isPrefixOf x = true
  | [], _, _, _, _, _ => by simp
  | a :: p, [], _, h, _, _ => absurd (List.nil_lt_cons a p) h
  | a :: p, b :: x, [], _, h, _ => by simp at h
  | a :: p, b :: x, c :: y, h, h2, h3 => by
    simp only [List.isPrefixOf_cons_cons, Bool.and_eq_true, beq_iff_eq] at h3 ⊢
    obtain ⟨rfl, h4⟩ := h3
    simp only [List.cons_lt_cons_iff] at h h2
    rcases h2 with h2 | ⟨rfl, h2⟩
    · exact absurd (.inl h2) h
    · exact ⟨rfl, pre_between p x y (fun hx => h (.inr ⟨rfl, hx⟩)) h2 h4⟩
theorem pre_ge : ∀ (p x : List UInt8), p.isPrefixOf x = true → ¬ x < p
  | [], _, _ => by simp
  | a :: p, [], h => by simp at h
  | a :: p, b :: x, h => by
    simp only [List.isPrefixOf_cons_cons, Bool.and_eq_true, beq_iff_eq] at h
    obtain ⟨rfl, h⟩ := h
    simp only [List.cons_lt_cons_iff]
    rintro (h2 | ⟨_, h2⟩)
    · exact absurd h2 (UInt8.lt_irrefl _)
    · exact pre_ge p x h h2
theorem tw_filter (f : Ent → Bool) : ∀ (E : List Ent), E.Pairwise (fun x y => f y = true → f x = true) → E.takeWhile f = E.filter f
  | [], _ => rfl
  | x :: E, h => by
    obtain ⟨h1, h2⟩ := List.pairwise_cons.1 h
    rw [List.takeWhile_cons, List.filter_cons]
    cases hf : f x with
    | true => simp [tw_filter f E h2]
    | false =>
      have : E.filter f = [] := by
        rw [List.filter_eq_nil_iff]
        intro y hy hfy
        have := h1 y hy hfy
        rw [hf] at this
        cases this
      simp [this]
theorem filter_under {E : List Ent} (hs : Srt E) (p : ByteArray) : E.filter (fun x => hp x.1 p) = underL E p := by
  unfold underL
  rw [tw_filter]
  · refine srt_ext (hs.filter _) ((hs.drop _).filter _) fun x => ?_
    rw [List.mem_filter, List.mem_filter, mem_drop_pos hs]
    constructor
    · rintro ⟨h1, h2⟩
      exact ⟨⟨h1, pre_ge _ _ h2⟩, h2⟩
    · rintro ⟨⟨h1, _⟩, h2⟩
      exact ⟨h1, h2⟩
  · have hd := hs.drop (pos E p)
    refine List.Pairwise.imp_of_mem (fun {x y} hx hy hxy hp2 => ?_) hd
    have hx1 := ((mem_drop_pos hs p x).1 hx).2
    exact pre_between _ _ _ hx1 hxy hp2
theorem under_srt {E : List Ent} (hs : Srt E) (p : ByteArray) : Srt (underL E p) := by rw [← filter_under hs]; exact hs.filter _
theorem get_iff {E : List Ent} (hs : Srt E) (k v : ByteArray) : getL E k = some v ↔ (k, v) ∈ E := by
  cases hh : hasK E k with
  | true =>
    obtain ⟨h1, h2⟩ := (has_iff hs k).1 hh
    rw [get_at h1 h2]
    constructor
    · intro h
      have h3 : E[pos E k].2 = v := Option.some.inj h
      have : E[pos E k] = (k, v) := Prod.ext h2 h3
      rw [← this]
      exact List.getElem_mem h1
    · intro h
      obtain ⟨i, hi, he⟩ := List.mem_iff_getElem.1 h
      have hk : E[i].1 = k := by rw [he]
      rcases Nat.lt_trichotomy i (pos E k) with h3 | h3 | h3
      · exact absurd hk (pos_ne h3 hi)
      · subst h3; rw [he]
      · exact absurd hk (pos_ne' hs h3 hi)
  | false =>
    rw [get_none hh]
    constructor
    · intro h; cases h
    · intro h
      have : hasK E k = true := List.any_eq_true.2 ⟨_, h, by simp⟩
      rw [hh] at this; cases this
end Go.Proofs.YtpcdgljcpacpiaaGreatDoor
namespace Go.Proofs.YtpcdgljcpacpiaaGreatDoor
theorem stepL_len {E : List Ent} (x : Ent) (hs : Srt E) : (stepL E x).length ≤ E.length + 1 := by
  unfold stepL
  split
  · have := put_len hs x.1 x.2; omega
  · omega
theorem ofL_len (L : List Ent) : (ofL L).length ≤ L.length := by
  suffices h : ∀ (L E : List Ent), Srt E → E.length ≤ 2000 → (L.foldl stepL E).length ≤ E.length + L.length by
    have := h L [] List.Pairwise.nil (by decide)
    simpa [ofL] using this
  intro L
  induction L with
  | nil => intro E _ _; simp
  | cons x L ih =>
    intro E hs hl
    have h1 := stepL_inv x hs hl
    have h2 := ih _ h1.1 h1.2
    have h3 := stepL_len x hs
    simp only [List.foldl_cons, List.length_cons]
    omega
theorem few_len (L : List Ent) : (ofL (fewL L)).length ≤ 20 := by
  refine Nat.le_trans (ofL_len _) ?_
  unfold fewL
  rw [List.length_map, List.length_take]
  omega
theorem has_get {E F : List Ent} {a b : ByteArray} (h : getL E a = getL F b) : hasK E a = hasK F b := by
  rw [← get_has, ← get_has, h]
theorem get_put {E : List Ent} (hs : Srt E) (k v : ByteArray) : getL (putL E k v) k = some v :=
  (get_iff (put_srt hs k v) k v).2 ((mem_put hs k v _).2 (.inl rfl))
theorem get_put_ne {E : List Ent} (hs : Srt E) (k v : ByteArray) {o : ByteArray} (h : o ≠ k) : getL (putL E k v) o = getL E o := by
  apply Option.ext
  intro y
  rw [get_iff (put_srt hs k v), get_iff hs, mem_put hs]
  constructor
  · rintro (h1 | ⟨h1, _⟩)
    · exact absurd (congrArg Prod.fst h1) h
    · exact h1
  · intro h1; exact .inr ⟨h1, h⟩
theorem get_drop {E : List Ent} (hs : Srt E) (k : ByteArray) : getL (dropL E k) k = none := by
  cases h : getL (dropL E k) k with
  | none => rfl
  | some v => exact absurd rfl ((mem_dropL hs k _).1 ((get_iff (drop_srt hs k) k v).1 h)).2
theorem put_same {E : List Ent} (hs : Srt E) (k v : ByteArray) : E = putL E k v ↔ getL E k = some v := by
  constructor
  · intro h
    have := get_put hs k v
    rw [← h] at this
    exact this
  · intro h
    have hm := (get_iff hs k v).1 h
    refine srt_ext hs (put_srt hs k v) fun x => ?_
    rw [mem_put hs]
    constructor
    · intro hx
      by_cases hk : x.1 = k
      · left
        have h1 := (get_iff hs x.1 x.2).2 hx
        rw [hk, h] at h1
        exact Prod.ext hk (Option.some.inj h1).symm
      · exact .inr ⟨hx, hk⟩
    · rintro (rfl | ⟨hx, _⟩)
      · exact hm
      · exact hx
theorem drop_put {E : List Ent} (hs : Srt E) (k v : ByteArray) : dropL (putL E k v) k = E ↔ hasK E k = false := by
  constructor
  · intro h
    have := get_drop (put_srt hs k v) k
    rw [h] at this
    rw [← get_has, this]; rfl
  · intro h
    have hn := get_none h
    refine srt_ext (drop_srt (put_srt hs k v) k) hs fun x => ?_
    rw [mem_dropL (put_srt hs k v), mem_put hs]
    constructor
    · rintro ⟨rfl | ⟨hx, _⟩, h2⟩
      · exact absurd rfl h2
      · exact hx
    · intro hx
      have hk : x.1 ≠ k := by
        intro e
        have := (get_iff hs x.1 x.2).2 hx
        rw [e, hn] at this
        cases this
      exact ⟨.inr ⟨hx, hk⟩, hk⟩
end Go.Proofs.YtpcdgljcpacpiaaGreatDoor
namespace Go.Proofs.YtpcdgljcpacpiaaGreatDoor
open Go.RowKit Go.ChangeShapes Go.WideShapes
theorem ent_cells {H : Type} {enc : TypeId × Value → H} {W : World} {base fuel : Nat} {sp : Nat → Bool} {hd : Bool} {cs : List Value} {x : DataW H × List MemPlace} (h : DataW.trod enc Tryz.prog W base sp hd fuel 62 cs = some x) :
    ∃ s t, cs = [.string s, .string t] := by
  obtain ⟨ys, n', _, _, hl, hyl, hf⟩ := DataW.trod_struct Tryz.underlying62 h
  have hC : Tryz.prog.cellsOf 62 = 2 := by kernel_rfl
  rw [hC] at hl
  match cs, hl with
  | [c0, c1], _ =>
    have hS : Tryz.prog.cellsOf 9 = 1 := by kernel_rfl
    have h0 : DataW.trod enc Tryz.prog W base sp hd n' 9 (([c0, c1].drop 0).take (Tryz.prog.cellsOf 9)) = ys[0]? := hf 0 _ rfl
    have h1 : DataW.trod enc Tryz.prog W base sp hd n' 9 (([c0, c1].drop 1).take (Tryz.prog.cellsOf 9)) = ys[1]? := hf 1 _ rfl
    rw [hS] at h0 h1
    simp only [List.drop_zero, List.drop_succ_cons, List.take_succ_cons, List.take_zero] at h0 h1
    match ys, hyl with
    | [y0, y1], _ =>
      obtain ⟨s, e0, _⟩ := DataW.trod_string Tryz.underlying9 h0
      obtain ⟨t, e1, _⟩ := DataW.trod_string Tryz.underlying9 h1
      simp only [List.cons.injEq, and_true] at e0 e1
      exact ⟨s, t, by rw [e0, e1]⟩
theorem open_entry {H : Type} {enc : TypeId × Value → H} {W : World} {base : Nat} {sp : Nat → Bool} {hd : Bool} {v : Value} {d : DataW H} {p : List MemPlace} (hv : Value.okWide Tryz.prog W .any base 62 v) (h : DataW.Trod enc Tryz.prog W 0 sp hd 62 v d p) :
    ∃ s t, v = .agg #[.string s, .string t] := by
  obtain ⟨cs, rfl, _⟩ := okWide_struct Tryz.underlying62 hv
  obtain ⟨fuel, hf⟩ := h
  obtain ⟨s, t, e⟩ := ent_cells hf
  refine ⟨s, t, ?_⟩
  have e2 : cs.toList = [.string s, .string t] := by simpa [Value.cells] using e
  rw [← Array.toArray_toList (xs := cs), e2]
theorem open_texts {n t : Nat} {H : Type} {enc : TypeId × Value → H} {W : World} {base : Nat} {sp : Nat → Bool} {hd : Bool} {v : Value} {d : DataW H} {p : List MemPlace} (ht : Tryz.prog.underlying t = some (.array n 9)) (hC : Tryz.prog.cellsOf t = n) (hv : Value.okWide Tryz.prog W .any base t v) (h : DataW.Trod enc Tryz.prog W 0 sp hd t v d p) :
    ∃ ss : List ByteArray, ss.length = n ∧ v = .agg (ss.map Value.string).toArray := by
  have hv' : ∃ cs, v = .agg cs ∧ cs.size = Tryz.prog.cellsOf t := by
    unfold Value.okWide at hv
    rw [ht] at hv
    obtain ⟨cs, h1, h2, _⟩ := hv
    exact ⟨cs, h1, h2⟩
  obtain ⟨cs, rfl, hsz⟩ := hv'
  obtain ⟨fuel, hf⟩ := h
  obtain ⟨xs, m, _, _, _, hlen, hg⟩ := DataW.trod_array ht hf
  obtain ⟨l⟩ := cs
  have hl : l.length = n := by simpa using hsz.trans hC
  have hE : Tryz.prog.cellsOf 9 = 1 := by kernel_rfl
  have each : ∀ i, i < n → ∃ s, l[i]? = some (.string s) := by
    intro i hi
    have h1 := hg i hi
    rw [hE] at h1
    simp only [Nat.mul_one] at h1
    have hx : xs[i]? = some (xs[i]'(by omega)) := List.getElem?_eq_getElem (by omega)
    have hc : (((Value.agg l.toArray).cells.toList.drop i).take 1) = [l[i]'(by omega)] := by
      simp only [Value.cells]
      rw [List.drop_eq_getElem_cons (by simpa using (by omega : i < l.length))]
      rfl
    rw [hx, hc] at h1
    obtain ⟨s, hz, _, _⟩ := DataW.trod_string Tryz.underlying9 h1
    refine ⟨s, ?_⟩
    rw [List.getElem?_eq_getElem (by omega)]
    simp only [List.cons.injEq, and_true] at hz
    rw [hz]
  refine ⟨List.ofFn fun k : Fin n => (each k.1 k.2).choose, by simp, ?_⟩
  congr 1
  apply Array.ext'
  show l = _
  apply List.ext_getElem
  · simp [hl]
  · intro i h1 h2
    have := (each i (by omega)).choose_spec
    have e : l[i]? = some l[i] := List.getElem?_eq_getElem h1
    simp only [List.getElem_map, List.getElem_ofFn]
    exact Option.some.inj (e.symm.trans this)
theorem open_ents {H : Type} {enc : TypeId × Value → H} {W : World} {base : Nat} {sp : Nat → Bool} {hd : Bool} {v : Value} {d : DataW H} {p : List MemPlace} (hv : Value.okWide Tryz.prog W .any base 24 v) (h : DataW.Trod enc Tryz.prog W 0 sp hd 24 v d p) :
    ∃ L, Ents W v L ∧ L.length ≤ 9223372036854775807 := by
  obtain ⟨a, len, cap, rfl⟩ := okWide_slice Tryz.underlying24 hv
  obtain ⟨fuel, hf⟩ := h
  rcases Go.Deep.open_slice Tryz.underlying24 hf with ⟨h0, _⟩ | ⟨a', len', cap', m, n, D, Pl, hcs, _, hl, hm, hmm, _, hi⟩
  · simp [Value.cells] at h0
    obtain ⟨rfl, rfl, rfl⟩ := h0
    exact ⟨[], .inl ⟨rfl, none, 0, rfl, by decide⟩, by decide⟩
  · simp [Value.cells] at hcs
    obtain ⟨rfl, rfl, rfl⟩ := hcs
    rcases Nat.eq_zero_or_pos len with rfl | hpos
    · exact ⟨[], .inl ⟨rfl, _, cap, rfl, hm⟩, by decide⟩
    have hC : Tryz.prog.cellsOf 62 = 2 := by kernel_rfl
    rw [hC] at hi
    have hml : len ≤ m := by rw [hmm]; split <;> omega
    have each : ∀ k, k < len → ∃ x : Ent, W.cell? (a'.add (k * 2)) = some (.string x.1) ∧ W.cell? (a'.add (k * 2 + 1)) = some (.string x.2) := by
      intro k hk
      obtain ⟨cs', hc, ht⟩ := hi k (by omega)
      obtain ⟨_, hlen, hat⟩ := World.cells?_some hc
      obtain ⟨s, t, rfl⟩ := ent_cells ht
      refine ⟨(s, t), ?_, ?_⟩
      · have h5 := hat 0 (by decide)
        rw [Go.Deep.add_add] at h5
        exact h5
      · have h5 := hat 1 (by decide)
        rw [Go.Deep.add_add] at h5
        exact h5
    have build : ∃ L : List Ent, L.length = len ∧ ∀ k (hk : k < L.length), W.cell? (a'.add (k * 2)) = some (.string L[k].1) ∧ W.cell? (a'.add (k * 2 + 1)) = some (.string L[k].2) := by
      refine ⟨List.ofFn fun k : Fin len => (each k.1 k.2).choose, by simp, fun k hk => ?_⟩
      simp only [List.getElem_ofFn]
      exact (each k (by simpa using hk)).choose_spec
    obtain ⟨L, hlN, hNs⟩ := build
    have h00 := (hNs 0 (by omega)).1
    have hspot : a'.spot = none := by
      simp [Addr.add, World.cell?] at h00
      split at h00
      · split at h00
        · cases h00
        · rename_i hq; simpa using hq
      · cases h00
    obtain ⟨g, off, spot⟩ := a'
    simp at hspot
    subst hspot
    have eadd : ∀ j, (⟨g, off, none⟩ : Addr).add j = ⟨g, off + j, none⟩ := fun j => by unfold Addr.add; split <;> simp_all
    have hm' : cap ≤ 9223372036854775807 := hm
    refine ⟨L, .inr ⟨by omega, g, off, cap, by rw [hlN], by omega, hm', fun k hk => ?_⟩, by omega⟩
    have := hNs k hk
    rw [eadd, eadd, ← Nat.add_assoc] at this
    exact this
end Go.Proofs.YtpcdgljcpacpiaaGreatDoor

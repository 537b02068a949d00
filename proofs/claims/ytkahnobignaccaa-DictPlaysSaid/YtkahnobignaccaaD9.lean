/- Contracts of the document's answer of layer 8: Same, Get, Find. -/
import Derived.Test.YtkahnobignaccaaD8
namespace Go.Proofs.Ytkahnobignaccaa
open Go.RowKit
attribute [local go_sem ↓] Go.wp_at_zero Go.wp_at_succ
theorem Ents.form {w : World} {v : Value} {E : List Ent} (h : Ents w v E) : ∃ p cap, v = .slice p E.length cap ∧ E.length ≤ cap ∧ cap ≤ 9223372036854775807 ∧ (0 < E.length → ∃ g off, p = some ⟨g, off, none⟩ ∧ EntC w g off E) := by
  rcases h with ⟨rfl, q, cap, rfl, hc⟩ | ⟨h0, g, off, cap, rfl, h1, h2, h3⟩
  · exact ⟨q, cap, rfl, Nat.zero_le _, hc, fun h => absurd h (Nat.lt_irrefl _)⟩
  · exact ⟨_, cap, rfl, h1, h2, fun _ => ⟨g, off, rfl, h3⟩⟩
set_option maxHeartbeats 1000000 in
theorem rsame_any (v1 v2 : Value) (E F : List Ent) (w : World) (hv : Ents w v1 E) (hu : Ents w v2 F) (hl : E.length ≤ 1000000) (hl2 : F.length ≤ 1000000) :
    Calls Try.prog 20 #[v1, v2] w fun e w' => e = .returned (.bool (decide (E = F))) ∧ Below w.heap.size w w' := by
  obtain ⟨p, cap, rfl, _, _, hf⟩ := hv.form
  obtain ⟨p2, cap2, rfl, _, _, hf2⟩ := hu.form
  by_cases hlen : E.length = F.length
  · rw [← hlen]
    have Hlen := Lib.hid hlen
    have Hf := Lib.hid hf
    have Hf2 := Lib.hid hf2
    clear hf hf2 hlen hv hu hl2
    go_enter Try.func20, Try.ntmps20
    go_wp2_with fail
    go_loopw [5] (fun i wr => ∃ k : Nat, k ≤ E.length ∧ i = .int .i64 (k : Int) ∧ Hid (∀ j (h1 : j < E.length) (h2 : j < F.length), j < k → E[j] = F[j]) ∧ Below w.heap.size w wr) (fun i _ => E.length - (intOf i).toNat)
    case atStart => exact ⟨0, by omega, rfl, fun j _ _ h => absurd h (Nat.not_lt_zero _), Below.refl _ _⟩
    case round =>
      obtain ⟨k, hk, rfl, hinv, hb⟩ := hrel
      by_cases hlt : k < E.length
      · have hlt2 : k < F.length := by rw [← Hlen.out]; exact hlt
        obtain ⟨g, off, rfl, hent⟩ := Hf.out (by omega)
        obtain ⟨g2, off2, rfl, hent2⟩ := Hf2.out (by omega)
        have hc := (hent.on hb) k hlt
        have hd := (hent2.on hb) k hlt2
        have hk1 : (k : Int) < (E.length : Int) := by omega
        clear hent hent2 Hf Hf2
        by_cases he : E[k] = F[k]
        · have hinv' : Hid (∀ j (h1 : j < E.length) (h2 : j < F.length), j < k + 1 → E[j] = F[j]) := fun j h1 h2 h3 => by
            by_cases h4 : j < k
            · exact hinv.out j h1 h2 h4
            · obtain rfl : j = k := by omega
              exact he
          rw [← he] at hd
          have hE := ent_eq E[k].1 E[k].2
          clear he
          generalize E[k].1 = a1 at *
          generalize E[k].2 = a2 at *
          go_wp2_with fail
          go_quiet (fail)
          go_wp2_with fail
          go_roundw
          case rel => exact ⟨k + 1, by omega, by go_num, hinv', below_drewN hb _⟩
          case measure => simp [intOf]; omega
        · have hE := ent_neq (a := E[k].1) (b := E[k].2) (c := F[k].1) (d := F[k].2) he
          have hne : decide (E = F) = false := by
            rw [decide_eq_false_iff_not]
            rintro rfl
            exact he rfl
          have Hne := Lib.hid hne
          clear he hne
          generalize E[k].1 = a1 at *
          generalize E[k].2 = a2 at *
          generalize F[k].1 = b1 at *
          generalize F[k].2 = b2 at *
          go_wp2_with fail
          go_quiet (fail)
          go_wp2_with fail
          go_ret
          exact ⟨by rw [Hne.out]; rfl, below_drewN hb _⟩
      · obtain rfl : k = E.length := by omega
        have he : E = F := list_eq_of Hlen.out (fun j h1 h2 => hinv.out j h1 h2 h1)
        have He : Hid (decide (E = F) = true) := decide_eq_true he
        clear he
        go_wp2_with fail
        go_ret
        exact ⟨by rw [He.out]; rfl, hb⟩
  · have hne : decide (E = F) = false := by
      rw [decide_eq_false_iff_not]
      rintro rfl
      exact hlen rfl
    rw [hne]
    have h1 : ((E.length : Int) != (F.length : Int)) = true := by simp; omega
    clear hne hv hu hlen hf hf2
    go_enter Try.func20, Try.ntmps20
    go_wp2_with fail
    go_ret
    exact ⟨rfl, Below.refl _ _⟩
theorem get_first {E : List Ent} {k : ByteArray} {i : Nat} (hi : i < E.length) (hb : ∀ j (hj : j < E.length), j < i → E[j].1 ≠ k) (he : E[i].1 = k) : getL E k = some E[i].2 := by
  unfold getL
  have : E.find? (fun x => decide (x.1 = k)) = some E[i] := by
    rw [List.find?_eq_some_iff_getElem]
    refine ⟨by simpa using he, i, hi, rfl, fun j hj => ?_⟩
    have := hb j (by omega) hj
    simpa using this
  rw [this]; rfl
theorem get_last {E : List Ent} {k : ByteArray} (hb : ∀ j (hj : j < E.length), E[j].1 ≠ k) : getL E k = none := by
  unfold getL
  have : E.find? (fun x => decide (x.1 = k)) = none := by
    rw [List.find?_eq_none]
    intro x hx
    obtain ⟨j, hj, rfl⟩ := List.mem_iff_getElem.1 hx
    simpa using hb j hj
  rw [this]; rfl
set_option maxHeartbeats 1000000 in
theorem rget_any (v : Value) (E : List Ent) (key : ByteArray) (w : World) (hv : Ents w v E) (hl : E.length ≤ 1000000) :
    Calls Try.prog 27 #[v, .string key] w fun e w' => e = .returned (.tuple #[.string (gv E key), .bool (hasK E key)]) ∧ w = w' := by
  obtain ⟨p, cap, rfl, _, _, hf⟩ := hv.form
  have Hf := Lib.hid hf
  clear hf hv
  go_enter Try.func27, Try.ntmps27
  go_wp2_with fail
  go_loop [6] (fun i => ∃ k : Nat, k ≤ E.length ∧ i = .int .i64 (k : Int) ∧ Hid (∀ j (hj : j < E.length), j < k → E[j].1 ≠ key)) (fun i => E.length - (intOf i).toNat)
  case atStart => exact ⟨0, by omega, rfl, fun j _ h => absurd h (Nat.not_lt_zero _)⟩
  case round =>
    obtain ⟨k, hk, rfl, hinv⟩ := hrel
    by_cases hlt : k < E.length
    · obtain ⟨g, off, rfl, hent⟩ := Hf.out (by omega)
      have hc := hent k hlt
      have hk1 : (k : Int) < (E.length : Int) := by omega
      have hbe := beq_kl E[k].1 key
      clear hent Hf
      by_cases he : E[k].1 = key
      · have hg := get_first hlt hinv.out he
        have hh : hasK E key = true := by rw [← get_has, hg]; rfl
        have hgv : gv E key = E[k].2 := by unfold gv; rw [hg]; rfl
        have Hh := Lib.hid hh
        have Hgv := Lib.hid hgv
        rw [decide_eq_true he] at hbe
        clear hg hh hgv he
        generalize E[k].1 = a1 at *
        generalize E[k].2 = a2 at *
        go_wp2_with fail
        go_ret2
        exact ⟨by rw [Hh.out, Hgv.out]; rfl, rfl⟩
      · rw [decide_eq_false he] at hbe
        have hinv' : Hid (∀ j (hj : j < E.length), j < k + 1 → E[j].1 ≠ key) := fun j h1 h3 => by
          by_cases h4 : j < k
          · exact hinv.out j h1 h4
          · obtain rfl : j = k := by omega
            exact he
        clear he
        generalize E[k].1 = a1 at *
        generalize E[k].2 = a2 at *
        go_wp2_with fail
        go_round
        case rel => exact ⟨k + 1, by omega, by go_num, hinv'⟩
        case measure => simp [intOf]; omega
    · obtain rfl : k = E.length := by omega
      have hg := get_last (fun j hj => hinv.out j hj hj)
      have hh : hasK E key = false := by rw [← get_has, hg]; rfl
      have hgv : gv E key = ⟨#[]⟩ := by unfold gv; rw [hg]; rfl
      have Hh := Lib.hid hh
      have Hgv := Lib.hid hgv
      clear hg hh hgv
      go_wp2_with fail
      go_ret2
      exact ⟨by rw [Hh.out, Hgv.out]; rfl, rfl⟩
set_option maxHeartbeats 1000000 in
theorem rfind_any (v : Value) (E : List Ent) (key : ByteArray) (w : World) (hv : Ents w v E) (hs : Srt E) (hl : E.length ≤ 1000000) :
    Calls Try.prog 28 #[v, .string key] w fun e w' => e = .returned (.tuple #[.int .i64 (pos E key : Int), .bool (hasK E key)]) ∧ Below w.heap.size w w' := by
  obtain ⟨p, cap, rfl, _, _, hf⟩ := hv.form
  have hple := pos_le E key
  have Hf := Lib.hid hf
  have Hs := Lib.hid hs
  clear hf hv hs
  go_enter Try.func28, Try.ntmps28
  go_wp2_with fail
  go_loop [6] (fun i => ∃ k : Nat, k ≤ pos E key ∧ i = .int .i64 (k : Int)) (fun i => E.length - (intOf i).toNat)
  case atStart => exact ⟨0, by omega, rfl⟩
  case round =>
    obtain ⟨k, hk, rfl⟩ := hrel
    by_cases hlt : k < E.length
    · obtain ⟨g, off, rfl, hent⟩ := Hf.out (by omega)
      have hc := hent k hlt
      have hk1 : (k : Int) < (E.length : Int) := by omega
      have hbl := bless_klt E[k].1 key
      clear hent Hf
      by_cases hkp : k < pos E key
      · rw [decide_eq_true (pos_lt hkp hlt)] at hbl
        generalize E[k].1 = a1 at *
        generalize E[k].2 = a2 at *
        go_wp2_with fail
        go_round
        case rel => exact ⟨k + 1, by omega, by go_num⟩
        case measure => simp [intOf]; omega
      · obtain rfl : k = pos E key := by omega
        rw [decide_eq_false (pos_ge Hs.out (Nat.le_refl _) hlt)] at hbl
        have hbe := beq_kl E[pos E key].1 key
        have hh : hasK E key = decide (E[pos E key].1 = key) := by
          rw [Bool.eq_iff_iff, decide_eq_true_eq, has_iff Hs.out]
          exact ⟨fun ⟨_, h⟩ => h, fun h => ⟨hlt, h⟩⟩
        obtain ⟨b, hb⟩ : ∃ b, b = hasK E key := ⟨_, rfl⟩
        rw [← hh, ← hb] at hbe
        have Hb := Lib.hid hb
        clear hh hb
        generalize E[pos E key].1 = a1 at *
        generalize E[pos E key].2 = a2 at *
        go_wp2_with fail
        go_quiet (fail)
        go_wp2_with fail
        go_ret2
        exact ⟨by rw [← Hb.out]; rfl, below_drewN (Below.refl _ _) _⟩
    · have hpe : pos E key = E.length := by omega
      have hh : hasK E key = false := by
        cases h : hasK E key
        · rfl
        · obtain ⟨h1, _⟩ := (has_iff Hs.out key).1 h
          omega
      have Hh := Lib.hid hh
      have Hpe := Lib.hid hpe
      have hk2 : ¬ (k : Int) < (E.length : Int) := by omega
      clear hh hpe
      go_wp2_with fail
      go_ret2
      exact ⟨by rw [Hh.out, Hpe.out]; rfl, Below.refl _ _⟩
end Go.Proofs.Ytkahnobignaccaa

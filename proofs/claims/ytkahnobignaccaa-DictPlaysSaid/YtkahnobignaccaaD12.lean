/- Contracts of the document's answer of layer 8: Of; of the laws' helpers: short, few. -/
import Derived.Test.YtkahnobignaccaaD11
import Derived.Test.YtkahnobignaccaaKitD
import Derived.Deep.RegionWith
import Derived.Deep.RegionLaw
import Derived.Deep.RegionHeld3
namespace Go.Proofs.Ytkahnobignaccaa
open Go.RowKit
attribute [local go_sem ↓] Go.wp_at_zero Go.wp_at_succ
theorem rput_any (v : Value) (E : List Ent) (k x : ByteArray) (w : World) (hv : Ents w v E) (hs : Srt E) (hl : E.length ≤ 2000) :
    Calls Try.prog 21 #[v, .string k, .string x] w fun e w' => ∃ v' c, e = .returned (.tuple #[v', .int .i64 c]) ∧ ((putOk E k x ∧ c = 0 ∧ Ents w' v' (putL E k x)) ∨ (¬ putOk E k x ∧ (c = 11 ∨ c = 15) ∧ v' = .slice none 0 0)) ∧ Below w.heap.size w w' := by
  by_cases h1 : 400 < k.size ∨ 4000 < x.size
  · exact (rput_size v k x w h1).mono fun e w' ⟨he, hb⟩ => ⟨_, _, he, .inr ⟨fun h => by have := h.1; have := h.2.1; omega, .inl rfl, rfl⟩, hb⟩
  · by_cases hok : putOk E k x
    · exact (rput_ok v E k x w hv hs hl hok).mono fun e w' ⟨v', he, hen, hb⟩ => ⟨_, _, he, .inl ⟨hok, rfl, hen⟩, hb⟩
    · have hh : hasK E k = false := by
        cases hh : hasK E k with
        | false => rfl
        | true => exact absurd ⟨by omega, by omega, .inl hh⟩ hok
      have hl2 : E.length = 2000 := by
        rcases Nat.lt_or_ge E.length 2000 with h2 | h2
        · exact absurd ⟨by omega, by omega, .inr h2⟩ hok
        · omega
      exact (rput_full v E k x w hv hl2 (by omega) (by omega) hh).mono fun e w' ⟨he, hb⟩ => ⟨_, _, he, .inr ⟨hok, .inr rfl, rfl⟩, hb⟩
set_option maxHeartbeats 2000000 in
theorem rof_any (u : Value) (L : List Ent) (w : World) (hv : Ents w u L) (hl : L.length ≤ 1000000) :
    Calls Try.prog 26 #[u] w fun e w' => ∃ v', e = .returned v' ∧ Ents w' v' (ofL L) ∧ Below w.heap.size w w' := by
  obtain ⟨p0, cap, rfl, _, _, hf⟩ := hv.form
  have Hf := Lib.hid hf
  clear hf hv
  go_enter Try.func26, Try.ntmps26
  go_wp2_with fail
  go_loopw [3, 4] (fun d i wr => ∃ (k : Nat), k ≤ L.length ∧ i = .int .i64 (k : Int) ∧ Hid (Ents wr d (ofL (L.take k))) ∧ Below w.heap.size w wr) (fun _ i _ => L.length - (intOf i).toNat)
  case atStart => exact ⟨0, by omega, rfl, Ents.nil _, BW_refl w⟩
  case round =>
    obtain ⟨k, hk, rfl, hd, hB⟩ := hrel
    by_cases hlt : k < L.length
    · obtain ⟨g, off, rfl, hent⟩ := Hf.out (by omega)
      have hc := (hent.on hB) k hlt
      have hk1 : (k : Int) < (L.length : Int) := by omega
      have hinv := ofL_inv (L.take k)
      have hsn : ofL (L.take (k + 1)) = stepL (ofL (L.take k)) L[k] := by rw [List.take_succ_eq_append_getElem hlt, ofL_snoc]
      have hput := fun w hv => rput_any u3 (ofL (L.take k)) L[k].1 L[k].2 w hv hinv.1 hinv.2
      have hst : stepL (ofL (L.take k)) L[k] = if putOk (ofL (L.take k)) L[k].1 L[k].2 then putL (ofL (L.take k)) L[k].1 L[k].2 else ofL (L.take k) := rfl
      rw [hst] at hsn
      have Hsn := Lib.hid hsn
      have Hput := Lib.hid hput
      clear hsn hput hst hinv
      generalize L[k].1 = a1 at *
      generalize L[k].2 = a2 at *
      go_wp2_with fail
      go_region_with (go_at_call 21; refine (Hput.out _ (hd.out.on (BW_drew (BW_refl _)))).mono ?_; rintro e w2 ⟨v1, c, rfl, hcase, hb2⟩)
      all_goals
        have hB2 := BW_on hB.drew hb2
        have hd2 := (hd.out.on (BW_drew (BW_refl _))).on hb2
        have Hd2 := Lib.hid hd2
        have Hcase := Lib.hid hcase
        clear hcase hd2
        rcases Hcase.out with ⟨hok, rfl, hen⟩ | ⟨hno, hcc, rfl⟩
        · have hs2 := Lib.hid (Hsn.out.trans (if_pos hok))
          rw [← hs2.out] at hen
          have Hen := Lib.hid hen
          clear hok hen
          go_wp2_with fail
          go_roundw
          case rel => exact ⟨k + 1, by omega, by go_num, Hen, hB2⟩
          case measure => simp [intOf]; omega
        · have hs2 := Lib.hid (Hsn.out.trans (if_neg hno))
          have hc0 : ((c : Int) == 0) = false := by rcases hcc with rfl | rfl <;> rfl
          rw [← hs2.out] at Hd2
          clear hno hcc
          go_wp2_with fail
          go_roundw
          case rel => exact ⟨k + 1, by omega, by go_num, Hd2, hB2⟩
          case measure => simp [intOf]; omega
    · obtain rfl : k = L.length := by omega
      rw [List.take_length] at hd
      go_wp2_with fail
      go_ret
      exact ⟨_, rfl, hd.out, hB⟩
def sh (s : ByteArray) : ByteArray := if 12 < s.size then s.extract 0 12 else s
theorem sh_size (s : ByteArray) : (sh s).size ≤ 12 := by
  unfold sh
  split
  · simp; omega
  · omega
set_option maxHeartbeats 1000000 in
theorem short_any (s : ByteArray) (w : World) : Calls Try.prog 17 #[.string s, .int .i64 12] w fun e w' => e = .returned (.string (sh s)) ∧ w = w' := by
  unfold sh
  by_cases h : 12 < s.size
  · rw [if_pos h]
    have h1 : (12 : Int) < (s.size : Int) := by omega
    go_enter Try.func17, Try.ntmps17
    go_wp2_with fail
    go_ret
    exact ⟨rfl, rfl⟩
  · rw [if_neg h]
    have h1 : ¬ (12 : Int) < (s.size : Int) := by omega
    go_enter Try.func17, Try.ntmps17
    go_wp2_with fail
    go_ret
    exact ⟨rfl, rfl⟩
def shE (x : Ent) : Ent := (sh x.1, sh x.2)
def fewL (L : List Ent) : List Ent := (L.take 20).map shE
set_option maxHeartbeats 2000000 in
theorem few_any (u : Value) (L : List Ent) (w : World) (hv : Ents w u L) (hl : L.length ≤ 9223372036854775807) :
    Calls Try.prog 14 #[u] w fun e w' => ∃ v', e = .returned v' ∧ w'.ownsRow w.heap.size 26 2 v' (fewL L).length (entV (fewL L)) ∧ Below w.heap.size w w' := by
  obtain ⟨i0, hi0, hz0, hz1, hz2⟩ := info_parts infoE
  obtain ⟨p0, cap, rfl, _, _, hf⟩ := hv.form
  have Hf := Lib.hid hf
  clear hf hv
  go_enter Try.func14, Try.ntmps14
  go_wp2_with fail
  go_loopw [3, 4] (fun o i wr => ∃ (k : Nat), k ≤ L.length ∧ k ≤ 20 ∧ i = .int .i64 (k : Int) ∧ wr.ownsRow w.heap.size 26 2 o k (entV ((L.take k).map shE)) ∧ Below w.heap.size w wr) (fun _ i _ => L.length - (intOf i).toNat)
  case atStart => exact ⟨0, by omega, by omega, rfl, World.ownsRow_nil _ _ _ _, Below.refl _ _⟩
  case round =>
    obtain ⟨k, hk, hk20, rfl, hown, hb⟩ := hrel
    by_cases hlt : k < L.length
    · have hk1 : (k : Int) < (L.length : Int) := by omega
      by_cases h20 : k < 20
      · obtain ⟨g, off, rfl, hent⟩ := Hf.out (by omega)
        have hc := (hent.on hb) k hlt
        have hk2 : (k : Int) < (20 : Int) := by omega
        have hsz := hb.size
        have hvv : entV ((L.take (k + 1)).map shE) = entV ((L.take k).map shE) ++ [.string (sh L[k].1), .string (sh L[k].2)] := by
          rw [List.take_succ_eq_append_getElem hlt, List.map_append, entV_app]; rfl
        have Hvv := Lib.hid hvv
        clear hent Hf hvv
        generalize L[k].1 = a1 at *
        generalize L[k].2 = a2 at *
        have hownd : wr.drew.ownsRow w.heap.size 26 2 u3 k (entV ((L.take k).map shE)) := hown
        have hszd : w.heap.size ≤ wr.drew.heap.size := hsz
        go_wp2_with fail
        go_region_law (first | (refine step_push_at rfl _ _ 23 rfl w.heap.size 26 i0 (.agg #[.string ⟨#[]⟩, .string ⟨#[]⟩]) 2 32 Try.underlying23 hi0 hz0 hz1 hz2 rfl (by decide) u3 _ _ (by rfl) hownd [.string (sh a1), .string (sh a2)] wr.heap.size (by rfl) (by rfl) rfl rfl (by unfold maxLen; omega) (by omega) (by omega) ?_; intro v1 w3 hown3 hb3 hz3) | (go_simp; go_at_call 17; refine (short_any _ _).mono ?_; rintro e w2 ⟨rfl, rfl⟩))
        all_goals
          rw [← Hvv.out] at hown3
          go_wp2_with fail
          go_roundw
          case rel => exact ⟨k + 1, by omega, by omega, by go_num, hown3, hb.drew.trans hb3⟩
          case measure => simp [intOf]; omega
      · have hk2 : ¬ (k : Int) < (20 : Int) := by omega
        obtain rfl : k = 20 := by omega
        have e : fewL L = (L.take 20).map shE := rfl
        rw [← e] at hown
        have e2 : (fewL L).length = 20 := by rw [e, List.length_map, List.length_take]; omega
        have He2 := Lib.hid e2
        clear Hf e2 e
        go_wp2_with fail
        go_ret
        exact ⟨_, rfl, by rw [He2.out]; exact hown, hb⟩
    · obtain rfl : k = L.length := by omega
      have hk1 : ¬ (L.length : Int) < (L.length : Int) := by omega
      have e : fewL L = (L.take L.length).map shE := by unfold fewL; rw [List.take_of_length_le hk20, List.take_length]
      rw [← e] at hown
      have e2 : (fewL L).length = L.length := by rw [e, List.length_map, List.take_length]
      have He2 := Lib.hid e2
      clear Hf e2 e
      go_wp2_with fail
      go_ret
      exact ⟨_, rfl, by rw [He2.out]; exact hown, hb⟩
end Go.Proofs.Ytkahnobignaccaa

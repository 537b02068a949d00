/- trace.Part: a range over a text's runes; no byte of a longer rune is a slash. -/
import Derived.Test.YtbimnfmjgmfijaaDoorTr1
import Derived.Laws.RangeAny
namespace Go.Proofs.YtbimnfmjgmfijaaDoor
open Go.RowKit
attribute [local go_sem ↓] Go.wp_at_zero Go.wp_at_succ
theorem bysN_inj {a b : ByteArray} (h : bysN a = bysN b) : a = b := by
  have e : a.data.toList = b.data.toList := by
    unfold bysN at h
    exact (List.map_inj_right (fun _ _ => UInt8.toNat.inj)).1 h
  cases a; cases b
  congr 1
  exact Array.toList_inj.1 e
theorem toList_isEmpty (s : ByteArray) : s.toList.isEmpty = decide (s.size = 0) := by
  rw [ByteArray.toList_eq]
  cases h : s.data.toList with
  | nil => simp [← ByteArray.size_data, ← Array.length_toList, h]
  | cons a r => simp [← ByteArray.size_data, ← Array.length_toList, h]
theorem toList_beq (a b : ByteArray) : (a.toList == b.toList) = decide (bysN a = bysN b) := by
  by_cases h : bysN a = bysN b
  · rw [bysN_inj h]; simp
  · rw [decide_eq_false h]
    refine beq_eq_false_iff_ne.2 fun h2 => h ?_
    rw [ByteArray.toList_eq, ByteArray.toList_eq] at h2
    unfold bysN; rw [h2]
theorem getD_get (s : ByteArray) (k : Nat) (h : k < s.size) : (bysN s).getD k 0 = (s.get! k).toNat := by
  rw [← str_get s k h h]
  congr 1
  simp [ByteArray.get!, getElem!_pos, h]
  rfl
/-- The bytes of a rune that is no ASCII one are none. -/
theorem decode_skip (s : ByteArray) (pos : Nat) (h : pos < s.size) (ha : 128 ≤ (s.get! pos).toNat) : ∀ k, pos ≤ k → k < pos + (Utf8.decode s pos).2 → k < s.size ∧ 128 ≤ (s.get! k).toNat := by
  have h0 : ¬ (s.get! (pos + 0)).toNat < 128 := by rw [Nat.add_zero]; omega
  intro k hk1
  simp only [Utf8.decode, h0, if_false]
  obtain ⟨j, rfl⟩ : ∃ j, k = pos + j := ⟨k - pos, by omega⟩
  intro hk2
  have hj : j < 4 := by
    revert hk2
    repeat' split
    all_goals (intro hk2; simp at hk2; omega)
  by_cases hj0 : j = 0
  · subst hj0; exact ⟨h, ha⟩
  revert hk2
  repeat' split
  all_goals intro hk2
  all_goals simp only [Bool.and_eq_true, decide_eq_true_eq, beq_iff_eq] at *
  all_goals (rcases (show j = 1 ∨ j = 2 ∨ j = 3 by omega) with rfl | rfl | rfl <;> omega)
theorem below_iter (w : World) (s : ByteArray) (p : Nat) : Below w.heap.size w (w.iter s p) := (Below.refl _ w).alloc (Nat.le_refl _) _
set_option maxHeartbeats 4000000 in
set_option maxRecDepth 100000 in
theorem part_any (s : ByteArray) (w : World) (hs : s.size ≤ 1000000) : Calls Tryd.prog 39 #[.string s] w fun e w' => e = .returned (.bool (okPart (bysN s))) ∧ Below w.heap.size w w' := by
  have hl := bysN_len s
  have hg := Lib.hid (getD_get s)
  have hok : Hid (okPart (bysN s) = ((bysN s).all (fun c => decide (c ≠ 47)) && decide (1 ≤ (bysN s).length) && decide ((bysN s).length ≤ 32))) := Lib.hid rfl
  generalize hln : bysN s = l at *
  have Hln := Bx9.mk hln
  clear hln
  go_enter Tryd.func39, Tryd.ntmps39
  go_wp2
  go_loopw [4] (fun _ wr => ∃ pos : Nat, pos ≤ s.size ∧ wr = w.iter s pos ∧ Hid (∀ c ∈ l.take pos, c ≠ 47)) (fun _ wr => s.size - wr.iterPos w.heap.size)
  case atStart => exact ⟨0, by omega, rfl, Lib.hid (fun c hc => by simp at hc)⟩
  case round =>
    obtain ⟨pos, hps, rfl, hq⟩ := hrel
    by_cases hp : pos < s.size
    · have hnx : ∀ ty, (Instr.next (.pointer (some ⟨w.heap.size, 0, none⟩)) true ty).run Tryd.prog (w.iter s pos) = _ := fun ty => run_next_any w s pos ty hp
      have hg2 := hg.out pos hp
      have hpl : pos < l.length := by omega
      have hmem : l.getD pos 0 ∈ l := by rw [List.getD_eq_getElem?_getD, List.getElem?_eq_getElem hpl]; exact List.getElem_mem _
      by_cases ha : (s.get! pos).toNat < 128
      · have hd := decode_ascii s pos hp (by
          have e : s.get! pos = s[pos]'hp := by simp [ByteArray.get!, getElem!_pos, hp]; rfl
          rwa [← e])
        have e : (s[pos]'hp).toNat = l.getD pos 0 := by
          rw [hg2]
          congr 1
          simp [ByteArray.get!, getElem!_pos, hp]
          rfl
        rw [e] at hd
        rw [← hg2] at ha
        have ht : Hid (l.take (pos + 1) = l.take pos ++ [l.getD pos 0]) := Lib.hid (by rw [List.take_succ_eq_append_getElem hpl, List.getD_eq_getElem?_getD, List.getElem?_eq_getElem hpl]; rfl)
        simp only [hd] at hnx
        clear hg2 e
        generalize l.getD pos 0 = c at *
        by_cases hc : c = 47
        · subst hc
          have hf : Hid (okPart l = false) := Lib.hid (by
            rw [hok.out]
            have h1 : l.all (fun c => decide (c ≠ 47)) = false := by
              rw [List.all_eq_false]
              exact ⟨47, hmem, by decide⟩
            rw [h1]; rfl)
          go_wp2
          go_ret
          exact ⟨by rw [hf.out]; rfl, below_iter w s _⟩
        · have hci : ¬ (c : Int) = 47 := by omega
          go_wp2
          go_roundw
          case rel => exact ⟨pos + 1, by omega, rfl, Lib.hid (fun x hx => by
            rw [ht.out] at hx
            rcases List.mem_append.1 hx with h | h
            · exact hq.out x h
            · simp at h; rw [h]; exact hc)⟩
          case measure => simp only [World.iterPos_iter]; omega
      · have hh := decode_high s pos hp (by
          have e : s.get! pos = s[pos]'hp := by simp [ByteArray.get!, getElem!_pos, hp]; rfl
          rw [← e]; omega)
        have hsk := Lib.hid (decode_skip s pos hp (by omega))
        have hle : pos + (Utf8.decode s pos).2 ≤ s.size := by
          rcases Nat.lt_or_ge (pos + (Utf8.decode s pos).2 - 1) s.size with h | h
          · omega
          · have := (hsk.out (pos + (Utf8.decode s pos).2 - 1) (by omega) (by omega)).1
            omega
        have hle2 := decode_le s pos
        generalize Utf8.decode s pos = d at *
        obtain ⟨r, wd⟩ := d
        have hno : Hid (∀ c ∈ l.take (pos + wd), c ≠ 47) := Lib.hid (by
          intro c hc
          obtain ⟨k, hk⟩ := List.mem_iff_getElem?.1 hc
          rw [List.getElem?_take] at hk
          split at hk
          · rename_i hki
            by_cases hkp : k < pos
            · exact hq.out c (List.mem_iff_getElem?.2 ⟨k, by rw [List.getElem?_take, if_pos hkp]; exact hk⟩)
            · have h3 := hsk.out k (by omega) hki
              have h4 := hg.out k h3.1
              rw [List.getD_eq_getElem?_getD, hk] at h4
              simp at h4
              omega
          · cases hk)
        dsimp only at hh hle hle2 hnx
        have hri : ¬ (r : Int) = 47 := by omega
        clear hg2
        go_wp2
        go_roundw
        case rel => exact ⟨pos + wd, hle, rfl, hno⟩
        case measure => simp only [World.iterPos_iter]; omega
    · obtain rfl : pos = s.size := by omega
      have hnx : ∀ ty, (Instr.next (.pointer (some ⟨w.heap.size, 0, none⟩)) true ty).run Tryd.prog (w.iter s s.size) = _ := fun ty => run_next_end w s s.size ty hp
      have hall : l.all (fun c => decide (c ≠ 47)) = true := by
        rw [List.all_eq_true]
        intro c hc
        exact decide_eq_true (hq.out c (by rw [← hl, List.take_length]; exact hc))
      have hf : Hid (okPart l = (decide (1 ≤ s.size) && decide (s.size ≤ 32))) := Lib.hid (by rw [hok.out, hall, hl]; rfl)
      have he := Lib.hid (toList_isEmpty s)
      clear hall hg hq hok
      by_cases h1 : 1 ≤ s.size
      · have hne : s.toList.isEmpty = false := by rw [he.out, decide_eq_false (by omega)]
        have hne2 : ¬ s.toList = [] := by intro h; rw [h] at hne; cases hne
        by_cases h2 : s.size ≤ 32
        · have h2i : (s.size : Int) ≤ 32 := by omega
          go_wp2
          go_ret
          exact ⟨by rw [hf.out, decide_eq_true h1, decide_eq_true h2]; rfl, below_iter w s _⟩
        · have h2i : ¬ (s.size : Int) ≤ 32 := by omega
          go_wp2
          go_ret
          exact ⟨by rw [hf.out, decide_eq_true h1, decide_eq_false h2]; rfl, below_iter w s _⟩
      · have hne : s.toList.isEmpty = true := by rw [he.out, decide_eq_true (by omega)]
        have hne2 : s.toList = [] := List.isEmpty_iff.1 hne
        go_wp2
        go_ret
        exact ⟨by rw [hf.out, decide_eq_false h1]; rfl, below_iter w s _⟩
end Go.Proofs.YtbimnfmjgmfijaaDoor

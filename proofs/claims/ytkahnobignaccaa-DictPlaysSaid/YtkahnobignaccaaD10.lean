/- Contracts of the document's answer of layer 8: Drop, Range, Under. -/
import Derived.Test.YtkahnobignaccaaD9
namespace Go.Proofs.Ytkahnobignaccaa
open Go.RowKit
attribute [local go_sem ↓] Go.wp_at_zero Go.wp_at_succ
theorem hp_take (a p : ByteArray) : ((a.extract 0 p.size).toList == p.toList) = hp a p := by
  have e : (a.extract 0 p.size).toList = a.data.toList.take p.size := by
    rw [ByteArray.toList_eq]
    simp [ByteArray.extract, ByteArray.copySlice]
  rw [e, ByteArray.toList_eq]
  unfold hp Lib.hasPrefix
  rw [Bool.eq_iff_iff, beq_iff_eq, List.isPrefixOf_iff_prefix, List.prefix_iff_eq_take]
  have hl : p.data.toList.length = p.size := Array.length_toList
  rw [hl]
  exact ⟨fun h => h.symm, fun h => h.symm⟩
theorem hp_short {a p : ByteArray} (h : ¬ p.size ≤ a.size) : ¬ hp a p = true := by
  unfold hp Lib.hasPrefix
  rw [List.isPrefixOf_iff_prefix]
  intro hpre
  have h1 := hpre.length_le
  rw [Array.length_toList, Array.length_toList] at h1
  exact h h1
set_option maxHeartbeats 1000000 in
theorem rdrop_any (v : Value) (E : List Ent) (key : ByteArray) (w : World) (hv : Ents w v E) (hl : E.length ≤ 1000000) :
    Calls Try.prog 19 #[v, .string key] w fun e w' => ∃ v', e = .returned (.tuple #[v', .bool (decide ((E.filter (fun x => decide (x.1 ≠ key))).length < E.length))]) ∧ w'.ownsRow w.heap.size 26 2 v' (E.filter (fun x => decide (x.1 ≠ key))).length (entV (E.filter (fun x => decide (x.1 ≠ key)))) ∧ Below w.heap.size w w' := by
  obtain ⟨i0, hi0, hz0, hz1, hz2⟩ := info_parts infoE
  obtain ⟨p0, cap, rfl, _, _, hf⟩ := hv.form
  have Hf := Lib.hid hf
  clear hf hv
  go_enter Try.func19, Try.ntmps19
  go_wp2_with fail
  go_loopw [6, 7] (fun o i wr => ∃ (k m : Nat), k ≤ E.length ∧ i = .int .i64 (k : Int) ∧ m ≤ k ∧ Hid (m = ((E.take k).filter (fun x => decide (x.1 ≠ key))).length) ∧ wr.ownsRow w.heap.size 26 2 o m (entV ((E.take k).filter (fun x => decide (x.1 ≠ key)))) ∧ Below w.heap.size w wr) (fun _ i _ => E.length - (intOf i).toNat)
  case atStart => exact ⟨0, 0, by omega, rfl, by omega, rfl, World.ownsRow_nil _ _ _ _, Below.refl _ _⟩
  case round =>
    obtain ⟨k, m, hk, rfl, hmk, hm, hown, hb⟩ := hrel
    by_cases hlt : k < E.length
    · obtain ⟨g, off, rfl, hent⟩ := Hf.out (by omega)
      have hc := (hent.on hb) k hlt
      have hk1 : (k : Int) < (E.length : Int) := by omega
      have htk : (E.take (k + 1)).filter (fun x => decide (x.1 ≠ key)) = (E.take k).filter (fun x => decide (x.1 ≠ key)) ++ if (decide (E[k].1 ≠ key)) then [E[k]] else [] := by
        rw [List.take_succ_eq_append_getElem hlt, List.filter_append, List.filter_cons, List.filter_nil]
      have hev : ∀ x : Ent, entV [x] = [.string x.1, .string x.2] := fun _ => rfl
      have hhd : (E[k].1, E[k].2) = E[k] := rfl
      have hsz := hb.size
      clear hent Hf
      by_cases he : E[k].1 = key
      · have hcond : ¬ (decide (E[k].1 ≠ key) = true) := by simp [he]
        have hbe := beq_kl E[k].1 key
        rw [decide_eq_true he] at hbe
        clear he
        have htk2 : ((E.take (k + 1)).filter (fun x => decide (x.1 ≠ key))) = (E.take k).filter (fun x => decide (x.1 ≠ key)) := by rw [htk, if_neg hcond, List.append_nil]
        have hmm : Hid (m = ((E.take (k + 1)).filter (fun x => decide (x.1 ≠ key))).length) := by show _ = _; rw [htk2]; exact hm.out
        have Htk2 := Lib.hid htk2
        clear htk htk2 hcond hev hhd
        generalize E[k].1 = a1 at *
        generalize E[k].2 = a2 at *
        go_wp2_with fail
        go_roundw
        case rel => exact ⟨k + 1, m, by omega, by go_num, by omega, hmm, by rw [Htk2.out]; exact hown, hb⟩
        case measure => simp [intOf]; omega
      · have hcond : decide (E[k].1 ≠ key) = true := by simp [he]
        have hbe := beq_kl E[k].1 key
        rw [decide_eq_false he] at hbe
        clear he
        have htk2 : ((E.take (k + 1)).filter (fun x => decide (x.1 ≠ key))) = (E.take k).filter (fun x => decide (x.1 ≠ key)) ++ [E[k]] := by rw [htk, if_pos hcond]
        have hvv : entV ((E.take (k + 1)).filter (fun x => decide (x.1 ≠ key))) = entV ((E.take k).filter (fun x => decide (x.1 ≠ key))) ++ [.string E[k].1, .string E[k].2] := by rw [htk2, entV_app]; rfl
        have hmm : Hid (m + 1 = ((E.take (k + 1)).filter (fun x => decide (x.1 ≠ key))).length) := by show _ = _; rw [htk2, List.length_append, ← hm.out]; rfl
        have Hvv := Lib.hid hvv
        clear htk htk2 hvv hcond hev hhd
        generalize E[k].1 = a1 at *
        generalize E[k].2 = a2 at *
        go_wp2_with (at_builtin; go_must (refine wpList_push_at rfl _ _ 23 rfl w.heap.size 26 i0 (.agg #[.string ⟨#[]⟩, .string ⟨#[]⟩]) 2 32 Try.underlying23 hi0 hz0 hz1 hz2 rfl (by decide) _ _ _ rfl hown [.string a1, .string a2] _ rfl rfl rfl rfl (by unfold maxLen; omega) (by omega) (by omega) ?_); intro v1 w3 hown3 hb3 hz3)
        rw [← Hvv.out] at hown3
        go_roundw
        case rel => exact ⟨k + 1, m + 1, by omega, by go_num, by omega, hmm, hown3, hb.trans hb3⟩
        case measure => simp [intOf]; omega
    · obtain rfl : k = E.length := by omega
      rw [List.take_length] at hown hm
      have Hm := Lib.hid hm.out
      have hcl := hl
      have hle : m ≤ E.length := hmk
      obtain ⟨q, cp, rfl⟩ : ∃ q cp, u6 = .slice q m cp := by
        have h2 := hown
        rw [Hm.out] at h2
        obtain ⟨q, cp, h3⟩ := (own_ents h2).len
        rw [← Hm.out] at h3
        exact ⟨q, cp, h3⟩
      go_wp2_with fail
      go_ret2
      have hd : decide ((m : Int) < (E.length : Int)) = decide (m < E.length) := by simp
      exact ⟨.slice q m cp, by rw [← Hm.out, ← hd]; rfl, by rw [← Hm.out]; exact hown, hb⟩
set_option maxHeartbeats 1000000 in
theorem rrange_any (v : Value) (E : List Ent) (fr to_ : ByteArray) (w : World) (hv : Ents w v E) (hl : E.length ≤ 1000000) :
    Calls Try.prog 29 #[v, .string fr, .string to_] w fun e w' => ∃ v', e = .returned (v') ∧ w'.ownsRow w.heap.size 26 2 v' (E.filter (fun x => (!decide (klt x.1 fr) && decide (klt x.1 to_)))).length (entV (E.filter (fun x => (!decide (klt x.1 fr) && decide (klt x.1 to_))))) ∧ Below w.heap.size w w' := by
  obtain ⟨i0, hi0, hz0, hz1, hz2⟩ := info_parts infoE
  obtain ⟨p0, cap, rfl, _, _, hf⟩ := hv.form
  have Hf := Lib.hid hf
  clear hf hv
  go_enter Try.func29, Try.ntmps29
  go_wp2_with fail
  go_loopw [7, 8] (fun o i wr => ∃ (k m : Nat), k ≤ E.length ∧ i = .int .i64 (k : Int) ∧ m ≤ k ∧ Hid (m = ((E.take k).filter (fun x => (!decide (klt x.1 fr) && decide (klt x.1 to_)))).length) ∧ wr.ownsRow w.heap.size 26 2 o m (entV ((E.take k).filter (fun x => (!decide (klt x.1 fr) && decide (klt x.1 to_))))) ∧ Below w.heap.size w wr) (fun _ i _ => E.length - (intOf i).toNat)
  case atStart => exact ⟨0, 0, by omega, rfl, by omega, rfl, World.ownsRow_nil _ _ _ _, Below.refl _ _⟩
  case round =>
    obtain ⟨k, m, hk, rfl, hmk, hm, hown, hb⟩ := hrel
    by_cases hlt : k < E.length
    · obtain ⟨g, off, rfl, hent⟩ := Hf.out (by omega)
      have hc := (hent.on hb) k hlt
      have hk1 : (k : Int) < (E.length : Int) := by omega
      have htk : (E.take (k + 1)).filter (fun x => (!decide (klt x.1 fr) && decide (klt x.1 to_))) = (E.take k).filter (fun x => (!decide (klt x.1 fr) && decide (klt x.1 to_))) ++ if ((!decide (klt E[k].1 fr) && decide (klt E[k].1 to_))) then [E[k]] else [] := by
        rw [List.take_succ_eq_append_getElem hlt, List.filter_append, List.filter_cons, List.filter_nil]
      have hev : ∀ x : Ent, entV [x] = [.string x.1, .string x.2] := fun _ => rfl
      have hhd : (E[k].1, E[k].2) = E[k] := rfl
      have hsz := hb.size
      clear hent Hf
      by_cases h1 : klt E[k].1 fr
      · have hcond : ¬ ((!decide (klt E[k].1 fr) && decide (klt E[k].1 to_)) = true) := by simp [h1]
        have hb1 := bless_klt E[k].1 fr
        rw [decide_eq_true h1] at hb1
        clear h1
        have htk2 : ((E.take (k + 1)).filter (fun x => (!decide (klt x.1 fr) && decide (klt x.1 to_)))) = (E.take k).filter (fun x => (!decide (klt x.1 fr) && decide (klt x.1 to_))) := by rw [htk, if_neg hcond, List.append_nil]
        have hmm : Hid (m = ((E.take (k + 1)).filter (fun x => (!decide (klt x.1 fr) && decide (klt x.1 to_)))).length) := by show _ = _; rw [htk2]; exact hm.out
        have Htk2 := Lib.hid htk2
        clear htk htk2 hcond hev hhd
        generalize E[k].1 = a1 at *
        generalize E[k].2 = a2 at *
        go_wp2_with fail
        go_roundw
        case rel => exact ⟨k + 1, m, by omega, by go_num, by omega, hmm, by rw [Htk2.out]; exact hown, hb⟩
        case measure => simp [intOf]; omega
      · by_cases h2 : klt E[k].1 to_
        · have hcond : (!decide (klt E[k].1 fr) && decide (klt E[k].1 to_)) = true := by simp [h1, h2]
          have hb1 := bless_klt E[k].1 fr
          rw [decide_eq_false h1] at hb1
          have hb2 := bless_klt E[k].1 to_
          rw [decide_eq_true h2] at hb2
          clear h1 h2
          have htk2 : ((E.take (k + 1)).filter (fun x => (!decide (klt x.1 fr) && decide (klt x.1 to_)))) = (E.take k).filter (fun x => (!decide (klt x.1 fr) && decide (klt x.1 to_))) ++ [E[k]] := by rw [htk, if_pos hcond]
          have hvv : entV ((E.take (k + 1)).filter (fun x => (!decide (klt x.1 fr) && decide (klt x.1 to_)))) = entV ((E.take k).filter (fun x => (!decide (klt x.1 fr) && decide (klt x.1 to_)))) ++ [.string E[k].1, .string E[k].2] := by rw [htk2, entV_app]; rfl
          have hmm : Hid (m + 1 = ((E.take (k + 1)).filter (fun x => (!decide (klt x.1 fr) && decide (klt x.1 to_)))).length) := by show _ = _; rw [htk2, List.length_append, ← hm.out]; rfl
          have Hvv := Lib.hid hvv
          clear htk htk2 hvv hcond hev hhd
          generalize E[k].1 = a1 at *
          generalize E[k].2 = a2 at *
          go_wp2_with (at_builtin; go_must (refine wpList_push_at rfl _ _ 23 rfl w.heap.size 26 i0 (.agg #[.string ⟨#[]⟩, .string ⟨#[]⟩]) 2 32 Try.underlying23 hi0 hz0 hz1 hz2 rfl (by decide) _ _ _ rfl hown [.string a1, .string a2] _ rfl rfl rfl rfl (by unfold maxLen; omega) (by omega) (by omega) ?_); intro v1 w3 hown3 hb3 hz3)
          rw [← Hvv.out] at hown3
          go_roundw
          case rel => exact ⟨k + 1, m + 1, by omega, by go_num, by omega, hmm, hown3, hb.trans hb3⟩
          case measure => simp [intOf]; omega
        · have hcond : ¬ ((!decide (klt E[k].1 fr) && decide (klt E[k].1 to_)) = true) := by simp [h2]
          have hb1 := bless_klt E[k].1 fr
          rw [decide_eq_false h1] at hb1
          have hb2 := bless_klt E[k].1 to_
          rw [decide_eq_false h2] at hb2
          clear h1 h2
          have htk2 : ((E.take (k + 1)).filter (fun x => (!decide (klt x.1 fr) && decide (klt x.1 to_)))) = (E.take k).filter (fun x => (!decide (klt x.1 fr) && decide (klt x.1 to_))) := by rw [htk, if_neg hcond, List.append_nil]
          have hmm : Hid (m = ((E.take (k + 1)).filter (fun x => (!decide (klt x.1 fr) && decide (klt x.1 to_)))).length) := by show _ = _; rw [htk2]; exact hm.out
          have Htk2 := Lib.hid htk2
          clear htk htk2 hcond hev hhd
          generalize E[k].1 = a1 at *
          generalize E[k].2 = a2 at *
          go_wp2_with fail
          go_roundw
          case rel => exact ⟨k + 1, m, by omega, by go_num, by omega, hmm, by rw [Htk2.out]; exact hown, hb⟩
          case measure => simp [intOf]; omega
    · obtain rfl : k = E.length := by omega
      rw [List.take_length] at hown hm
      have Hm := Lib.hid hm.out
      have hcl := hl
      go_wp2_with fail
      go_ret
      exact ⟨_, rfl, by rw [← Hm.out]; exact hown, hb⟩
set_option maxHeartbeats 1000000 in
theorem runder_any (v : Value) (E : List Ent) (p : ByteArray) (w : World) (hv : Ents w v E) (hl : E.length ≤ 1000000) :
    Calls Try.prog 30 #[v, .string p] w fun e w' => ∃ v', e = .returned (v') ∧ w'.ownsRow w.heap.size 26 2 v' (E.filter (fun x => hp x.1 p)).length (entV (E.filter (fun x => hp x.1 p))) ∧ Below w.heap.size w w' := by
  obtain ⟨i0, hi0, hz0, hz1, hz2⟩ := info_parts infoE
  obtain ⟨p0, cap, rfl, _, _, hf⟩ := hv.form
  have Hf := Lib.hid hf
  clear hf hv
  go_enter Try.func30, Try.ntmps30
  go_wp2_with fail
  go_loopw [5, 6] (fun o i wr => ∃ (k m : Nat), k ≤ E.length ∧ i = .int .i64 (k : Int) ∧ m ≤ k ∧ Hid (m = ((E.take k).filter (fun x => hp x.1 p)).length) ∧ wr.ownsRow w.heap.size 26 2 o m (entV ((E.take k).filter (fun x => hp x.1 p))) ∧ Below w.heap.size w wr) (fun _ i _ => E.length - (intOf i).toNat)
  case atStart => exact ⟨0, 0, by omega, rfl, by omega, rfl, World.ownsRow_nil _ _ _ _, Below.refl _ _⟩
  case round =>
    obtain ⟨k, m, hk, rfl, hmk, hm, hown, hb⟩ := hrel
    by_cases hlt : k < E.length
    · obtain ⟨g, off, rfl, hent⟩ := Hf.out (by omega)
      have hc := (hent.on hb) k hlt
      have hk1 : (k : Int) < (E.length : Int) := by omega
      have htk : (E.take (k + 1)).filter (fun x => hp x.1 p) = (E.take k).filter (fun x => hp x.1 p) ++ if (hp E[k].1 p) then [E[k]] else [] := by
        rw [List.take_succ_eq_append_getElem hlt, List.filter_append, List.filter_cons, List.filter_nil]
      have hev : ∀ x : Ent, entV [x] = [.string x.1, .string x.2] := fun _ => rfl
      have hhd : (E[k].1, E[k].2) = E[k] := rfl
      have hsz := hb.size
      clear hent Hf
      by_cases h1 : p.size ≤ E[k].1.size
      · by_cases h2 : hp E[k].1 p = true
        · have hcond : hp E[k].1 p = true := h2
          have hs1 : (p.size : Int) ≤ (E[k].1.size : Int) := by omega
          have hbe := hp_take E[k].1 p
          rw [h2] at hbe
          clear h1 h2
          have htk2 : ((E.take (k + 1)).filter (fun x => hp x.1 p)) = (E.take k).filter (fun x => hp x.1 p) ++ [E[k]] := by rw [htk, if_pos hcond]
          have hvv : entV ((E.take (k + 1)).filter (fun x => hp x.1 p)) = entV ((E.take k).filter (fun x => hp x.1 p)) ++ [.string E[k].1, .string E[k].2] := by rw [htk2, entV_app]; rfl
          have hmm : Hid (m + 1 = ((E.take (k + 1)).filter (fun x => hp x.1 p)).length) := by show _ = _; rw [htk2, List.length_append, ← hm.out]; rfl
          have Hvv := Lib.hid hvv
          clear htk htk2 hvv hcond hev hhd
          generalize E[k].1 = a1 at *
          generalize E[k].2 = a2 at *
          go_wp2_with (at_builtin; go_must (refine wpList_push_at rfl _ _ 23 rfl w.heap.size 26 i0 (.agg #[.string ⟨#[]⟩, .string ⟨#[]⟩]) 2 32 Try.underlying23 hi0 hz0 hz1 hz2 rfl (by decide) _ _ _ rfl hown [.string a1, .string a2] _ rfl rfl rfl rfl (by unfold maxLen; omega) (by omega) (by omega) ?_); intro v1 w3 hown3 hb3 hz3)
          rw [← Hvv.out] at hown3
          go_roundw
          case rel => exact ⟨k + 1, m + 1, by omega, by go_num, by omega, hmm, hown3, hb.trans hb3⟩
          case measure => simp [intOf]; omega
        · have hcond : ¬ (hp E[k].1 p = true) := h2
          have hs1 : (p.size : Int) ≤ (E[k].1.size : Int) := by omega
          have hbe := hp_take E[k].1 p
          rw [Bool.eq_false_iff.2 h2] at hbe
          clear h1 h2
          have htk2 : ((E.take (k + 1)).filter (fun x => hp x.1 p)) = (E.take k).filter (fun x => hp x.1 p) := by rw [htk, if_neg hcond, List.append_nil]
          have hmm : Hid (m = ((E.take (k + 1)).filter (fun x => hp x.1 p)).length) := by show _ = _; rw [htk2]; exact hm.out
          have Htk2 := Lib.hid htk2
          clear htk htk2 hcond hev hhd
          generalize E[k].1 = a1 at *
          generalize E[k].2 = a2 at *
          go_wp2_with fail
          go_roundw
          case rel => exact ⟨k + 1, m, by omega, by go_num, by omega, hmm, by rw [Htk2.out]; exact hown, hb⟩
          case measure => simp [intOf]; omega
      · have hcond : ¬ (hp E[k].1 p = true) := hp_short h1
        have hs1 : ¬ (p.size : Int) ≤ (E[k].1.size : Int) := by omega
        clear h1
        have htk2 : ((E.take (k + 1)).filter (fun x => hp x.1 p)) = (E.take k).filter (fun x => hp x.1 p) := by rw [htk, if_neg hcond, List.append_nil]
        have hmm : Hid (m = ((E.take (k + 1)).filter (fun x => hp x.1 p)).length) := by show _ = _; rw [htk2]; exact hm.out
        have Htk2 := Lib.hid htk2
        clear htk htk2 hcond hev hhd
        generalize E[k].1 = a1 at *
        generalize E[k].2 = a2 at *
        go_wp2_with fail
        go_roundw
        case rel => exact ⟨k + 1, m, by omega, by go_num, by omega, hmm, by rw [Htk2.out]; exact hown, hb⟩
        case measure => simp [intOf]; omega
    · obtain rfl : k = E.length := by omega
      rw [List.take_length] at hown hm
      have Hm := Lib.hid hm.out
      have hcl := hl
      go_wp2_with fail
      go_ret
      exact ⟨_, rfl, by rw [← Hm.out]; exact hown, hb⟩
end Go.Proofs.Ytkahnobignaccaa

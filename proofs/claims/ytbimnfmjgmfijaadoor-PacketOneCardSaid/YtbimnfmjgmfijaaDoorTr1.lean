/- The document's answer for layer 12 (trace): a part; the parts; what may be. -/
import Derived.Test.YtbimnfmjgmfijaaDoorS1
namespace Go.Proofs.YtbimnfmjgmfijaaDoor
open Go.RowKit
attribute [local go_sem ↓] Go.wp_at_zero Go.wp_at_succ
/-- A fact that no tactic looks into. -/
structure Bx9 (p : Prop) : Prop where
  out : p
theorem infoST : (Tryd.prog.info? 9).map (fun i => (i.zero, i.size, i.bytes)) = some (some (.string ⟨#[]⟩), 1, 16) := by kernel_rfl
theorem own2_strs {w : World} {base n : Nat} {v : Value} {Ls : List ByteArray} (h : own2 w base 9 v n (Ls.map Value.string)) (hn : n = Ls.length) : Strs w v Ls := by
  subst hn
  rcases h with ⟨rfl, h0, h1⟩ | h
  · have : Ls = [] := by simpa using h1
    subst this
    exact ⟨none, 0, rfl, fun h => by simp at h⟩
  · obtain ⟨g, cap, rfl, _, _, _, _, hc⟩ := h.form
    refine ⟨_, cap, rfl, fun _ => ⟨g, 0, rfl, fun i hi => ?_⟩⟩
    rw [Nat.zero_add]
    exact hc i _ (by rw [List.getElem?_map, List.getElem?_eq_getElem hi]; rfl)
/-- The parts of a text, one having begun. -/
def pcut (cur : List Nat) : List Nat → List (List Nat)
  | [] => [cur]
  | c :: r => if c = 47 then cur :: pcut [] r else pcut (cur ++ [c]) r
def parts (l : List Nat) : List (List Nat) := pcut [] l
def okPart (l : List Nat) : Bool := l.all (fun c => decide (c ≠ 47)) && decide (1 ≤ l.length) && decide (l.length ≤ 32)
def okDen (l : List Nat) : Bool := (parts l).all okPart && decide ((parts l).length ≤ 5) && decide (l.length ≤ 200)
theorem str_get (s : ByteArray) (k : Nat) (h : k < s.size) : ∀ h2 : k < s.size, (s[k]'h2).toNat = (bysN s).getD k 0 := fun h2 => by
  have hk2 : k < s.data.toList.length := by simpa using h
  unfold bysN
  rw [List.getD_eq_getElem?_getD, List.getElem?_map, List.getElem?_eq_getElem hk2]
  rfl
set_option maxHeartbeats 4000000 in
set_option maxRecDepth 100000 in
theorem r12part_any (s : ByteArray) (w : World) (hs : s.size ≤ 1000000) : Calls Tryd.prog 45 #[.string s] w fun e w' => e = .returned (.bool (okPart (bysN s))) ∧ w = w' := by
  have hl := bysN_len s
  have hg := Lib.hid (str_get s)
  have hok : Hid (okPart (bysN s) = ((bysN s).all (fun c => decide (c ≠ 47)) && decide (1 ≤ (bysN s).length) && decide ((bysN s).length ≤ 32))) := Lib.hid rfl
  generalize bysN s = l at *
  go_enter Tryd.func45, Tryd.ntmps45
  go_wp2_with fail
  go_loopw [3] (fun i wi => ∃ k : Nat, k ≤ l.length ∧ i = .int .i64 (k : Int) ∧ Hid (∀ c ∈ l.take k, c ≠ 47) ∧ w = wi) (fun i _ => l.length - (intOf i).toNat)
  case atStart => exact ⟨0, by omega, rfl, Lib.hid (fun c hc => by simp at hc), rfl⟩
  case round =>
    obtain ⟨k, hk, rfl, hq, rfl⟩ := hrel
    by_cases hk0 : k < l.length
    · have hk1 : (k : Int) < (s.size : Int) := by omega
      have hw1 : wrap64 ((k : Int) + 1) = (k : Int) + 1 := by unfold wrap64; omega
      have hg2 := hg.out k (by omega)
      have ht : Hid (l.take (k + 1) = l.take k ++ [l.getD k 0]) := Lib.hid (by rw [List.take_succ_eq_append_getElem hk0, List.getD_eq_getElem?_getD, List.getElem?_eq_getElem hk0]; rfl)
      have hmem : l.getD k 0 ∈ l := by rw [List.getD_eq_getElem?_getD, List.getElem?_eq_getElem hk0]; exact List.getElem_mem _
      generalize l.getD k 0 = c at *
      by_cases hc : c = 47
      · subst hc
        have hf : Hid (okPart l = false) := Lib.hid (by
          rw [hok.out]
          have h1 : l.all (fun c => decide (c ≠ 47)) = false := by
            rw [List.all_eq_false]
            exact ⟨47, hmem, by decide⟩
          rw [h1]; rfl)
        go_wp2_with fail
        go_ret
        exact ⟨by rw [hf.out]; rfl, rfl⟩
      · have hci : ¬ (c : Int) = 47 := by omega
        go_wp2_with fail
        go_roundw
        case rel => exact ⟨k + 1, by omega, by go_num, Lib.hid (fun x hx => by
          rw [ht.out] at hx
          rcases List.mem_append.1 hx with h | h
          · exact hq.out x h
          · simp at h; rw [h]; exact hc), by trivial⟩
        case measure => simp [intOf]; omega
    · obtain rfl : k = l.length := by omega
      have hall : l.all (fun c => decide (c ≠ 47)) = true := by
        rw [List.all_eq_true]
        intro c hc
        exact decide_eq_true (hq.out c (by rw [List.take_length]; exact hc))
      have hf : Hid (okPart l = (decide (1 ≤ s.size) && decide (s.size ≤ 32))) := Lib.hid (by rw [hok.out, hall, hl]; rfl)
      clear hall hg hq
      have hk1 : ¬ (l.length : Int) < (s.size : Int) := by omega
      by_cases h1 : 1 ≤ s.size
      · have h1i : (1 : Int) ≤ (s.size : Int) := by omega
        by_cases h2 : s.size ≤ 32
        · have h2i : (s.size : Int) ≤ 32 := by omega
          go_wp2_with fail
          go_ret
          exact ⟨by rw [hf.out, decide_eq_true h1, decide_eq_true h2]; rfl, rfl⟩
        · have h2i : ¬ (s.size : Int) ≤ 32 := by omega
          go_wp2_with fail
          go_ret
          exact ⟨by rw [hf.out, decide_eq_true h1, decide_eq_false h2]; rfl, rfl⟩
      · have h1i : ¬ (1 : Int) ≤ (s.size : Int) := by omega
        go_wp2_with fail
        go_ret
        exact ⟨by rw [hf.out, decide_eq_false h1]; rfl, rfl⟩
theorem pcut_skip (l : List Nat) (cur : List Nat) (k : Nat) (h : k < l.length) : pcut cur (l.drop k) = if l.getD k 0 = 47 then cur :: pcut [] (l.drop (k + 1)) else pcut (cur ++ [l.getD k 0]) (l.drop (k + 1)) := by
  rw [List.drop_eq_getElem_cons h, List.getD_eq_getElem?_getD, List.getElem?_eq_getElem h]
  rfl
theorem sub_one (s : ByteArray) (k : Nat) (h : k < s.size) : bysN (s.extract k (k + 1)) = [(bysN s).getD k 0] := by
  have hl := bysN_len s
  rw [bysN_extract, List.take_succ_eq_append_getElem (by omega), List.drop_append_of_le_length (by rw [List.length_take]; omega), List.drop_of_length_le (by rw [List.length_take]; omega), List.getD_eq_getElem?_getD, List.getElem?_eq_getElem (by omega)]
  rfl
set_option maxHeartbeats 4000000 in
set_option maxRecDepth 100000 in
theorem r12parts_any (s : ByteArray) (w : World) (hs : s.size ≤ 1000000) :
    Calls Tryd.prog 65 #[.string s] w fun e w' => ∃ v Ls, e = .returned v ∧ Strs w' v Ls ∧ Ls.map bysN = parts (bysN s) ∧ (∀ x ∈ Ls, x.size ≤ s.size) ∧ Ls.length ≤ s.size + 1 ∧ Below w.heap.size w w' := by
  obtain ⟨i0, hi0, iz0, iz1, iz2⟩ := info_parts infoST
  have hl := bysN_len s
  have hg := Lib.hid (str_get s)
  have hsub := Lib.hid (sub_one s)
  have hpar : Hid (parts (bysN s) = pcut [] (bysN s)) := Lib.hid rfl
  generalize hln : bysN s = l at *
  have Hln := Bx9.mk hln
  clear hln
  go_enter Tryd.func65, Tryd.ntmps65
  go_wp2_with fail
  go_loopw [3, 4, 5] (fun v one i wi => ∃ (k : Nat) (Ls : List ByteArray) (T : ByteArray), k ≤ l.length ∧ i = .int .i64 (k : Int) ∧ one = .string T ∧ T.size ≤ k ∧ Ls.length ≤ k ∧ Hid (∀ x ∈ Ls, x.size ≤ k) ∧ Hid (pcut [] l = Ls.map bysN ++ pcut (bysN T) (l.drop k)) ∧ own2 wi w.heap.size 9 v Ls.length (Ls.map Value.string) ∧ Below w.heap.size w wi) (fun _ _ i _ => l.length - (intOf i).toNat)
  case atStart => exact ⟨0, [], ⟨#[]⟩, by omega, rfl, rfl, by decide, by decide, Lib.hid (fun x hx => by cases hx), Lib.hid rfl, own2.nil _ _ _, BW_refl w⟩
  case round =>
    obtain ⟨k, Ls, T, hk, rfl, rfl, hTk, hLk, hxs, hq, hown, hb⟩ := hrel
    have hbs := hb.size
    by_cases hk0 : k < l.length
    · have hk1 : (k : Int) < (s.size : Int) := by omega
      have hw1 : wrap64 ((k : Int) + 1) = (k : Int) + 1 := by unfold wrap64; omega
      have hg2 := hg.out k (by omega)
      have hsk := Lib.hid (hsub.out k (by omega))
      have hcut := Lib.hid (pcut_skip l (bysN T) k hk0)
      generalize l.getD k 0 = c at *
      by_cases hc : c = 47
      · subst hc
        go_wp2_with (at_builtin; go_must (refine @wpList_push2 Tryd.prog _ _ _ _ _ wr rfl _ _ 86 rfl w.heap.size 9 i0 (.string ⟨#[]⟩) 16 Tryd.underlying86 hi0 iz0 iz1 iz2 rfl u3 Ls.length (Ls.map Value.string) ?q1 hown (.string T) wr.heap.size ?q2 rfl rfl ?q3 ?q4 ?q5 ?_; (case q1 => rfl); (case q2 => rfl); (case q3 => unfold maxLen; omega); (case q4 => omega); (case q5 => omega)); intro a2 w6 ha2 hg6 hn2)
        have hb6 := hb.grown hg6 (by omega) (own2.le hown)
        go_roundw
        case rel => exact ⟨k + 1, Ls ++ [T], ⟨#[]⟩, by omega, by go_num, rfl, by show 0 ≤ _; omega, by rw [List.length_append]; simp; omega, Lib.hid (fun x hx => by
          rcases List.mem_append.1 hx with h | h
          · have := hxs.out x h; omega
          · simp at h; rw [h]; omega), Lib.hid (by rw [hq.out, hcut.out, if_pos rfl, List.map_append, List.append_assoc]; rfl), by rw [List.length_append, List.map_append]; exact ha2, hb6⟩
        case measure => simp [intOf]; omega
      · have hci : ¬ (c : Int) = 47 := by omega
        obtain ⟨T2, hT2, hadd'⟩ := cat_big T (s.extract k (k + 1)) (by rw [← bysN_len (s.extract k (k + 1)), hsk.out]; simp; omega)
        have hT2s : T2.size ≤ k + 1 := by rw [← bysN_len, hT2, List.length_append, hsk.out, bysN_len]; simp; omega
        have HT2 : Hid (bysN T2 = bysN T ++ [c]) := Lib.hid (by rw [hT2, hsk.out])
        clear hT2
        have hk2 : (k : Int) + 1 ≤ (s.size : Int) := by omega
        have hk3 : (k : Int) ≤ (k : Int) + 1 := by omega
        go_wp2_with fail
        go_roundw
        case rel => exact ⟨k + 1, Ls, T2, by omega, by go_num, rfl, hT2s, by omega, Lib.hid (fun x hx => Nat.le_succ_of_le (hxs.out x hx)), Lib.hid (by rw [hq.out, hcut.out, if_neg hc, HT2.out]), hown, hb⟩
        case measure => simp [intOf]; omega
    · obtain rfl : k = l.length := by omega
      have hk1 : ¬ (l.length : Int) < (s.size : Int) := by omega
      go_wp2_with (at_builtin; go_must (refine @wpList_push2 Tryd.prog _ _ _ _ _ wr rfl _ _ 86 rfl w.heap.size 9 i0 (.string ⟨#[]⟩) 16 Tryd.underlying86 hi0 iz0 iz1 iz2 rfl u3 Ls.length (Ls.map Value.string) ?q1 hown (.string T) wr.heap.size ?q2 rfl rfl ?q3 ?q4 ?q5 ?_; (case q1 => rfl); (case q2 => rfl); (case q3 => unfold maxLen; omega); (case q4 => omega); (case q5 => omega)); intro a2 w6 ha2 hg6 hn2)
      have hb6 := hb.grown hg6 (by omega) (own2.le hown)
      go_ret
      refine ⟨_, rfl, Ls ++ [T], own2_strs (base := w.heap.size) (n := Ls.length + 1) (by rw [List.map_append]; exact ha2) (by rw [List.length_append]; rfl), ?_, ?_, by rw [List.length_append]; simp; omega, hb6⟩
      · rw [hpar.out, hq.out, List.drop_length, List.map_append]
        rfl
      · intro x hx
        rcases List.mem_append.1 hx with h | h
        · have := hxs.out x h; omega
        · simp at h; rw [h]; omega
set_option maxHeartbeats 4000000 in
set_option maxRecDepth 100000 in
theorem r12check_any (s : ByteArray) (w : World) (hs : s.size ≤ 1000000) : Calls Tryd.prog 46 #[.string s] w fun e w' => e = .returned (.bool (okDen (bysN s))) ∧ Below w.heap.size w w' := by
  have hl := bysN_len s
  have hok : Hid (okDen (bysN s) = ((parts (bysN s)).all okPart && decide ((parts (bysN s)).length ≤ 5) && decide ((bysN s).length ≤ 200))) := Lib.hid rfl
  go_enter Tryd.func46, Tryd.ntmps46
  go_wp2_with fail
  refine (r12parts_any s _ hs).mono ?_
  rintro e w1 ⟨v, Ls, rfl, hst, hp, hxs, hLsn, hb⟩
  have hPl : (parts (bysN s)).length = Ls.length := by rw [← hp, List.length_map]
  have hpall : Hid (∀ k, k < Ls.length → ∃ x, Ls[k]? = some x ∧ (parts (bysN s))[k]? = some (bysN x)) := Lib.hid (fun k hk => ⟨Ls[k], List.getElem?_eq_getElem hk, by rw [← hp, List.getElem?_map, List.getElem?_eq_getElem hk]; rfl⟩)
  generalize parts (bysN s) = P at *
  generalize hln : bysN s = l at *
  have Hln := Bx9.mk hln
  clear hln
  obtain ⟨pv, cap, rfl, hf⟩ := hst
  have Hf := Lib.hid hf
  have hxs' := Lib.hid hxs
  clear hf hp hxs
  go_wp2_with fail
  go_loopw [4, 5] (fun i _ wi => ∃ k : Nat, k ≤ Ls.length ∧ i = .int .i64 (k : Int) ∧ Hid ((P.take k).all okPart = true) ∧ w1 = wi) (fun i _ _ => Ls.length - (intOf i).toNat)
  case atStart => exact ⟨0, by omega, rfl, Lib.hid rfl, rfl⟩
  case round =>
    obtain ⟨k, hk, rfl, hq, rfl⟩ := hrel
    by_cases hk0 : k < Ls.length
    · have hk1 : (k : Int) < (Ls.length : Int) := by omega
      have hw1 : wrap64 ((k : Int) + 1) = (k : Int) + 1 := by unfold wrap64; omega
      obtain ⟨g, off, rfl, hc⟩ := Hf.out (by omega)
      have hcell := hc k hk0
      have hx := hxs'.out Ls[k] (List.getElem_mem _)
      obtain ⟨x, hx1, hx2⟩ := hpall.out k hk0
      rw [List.getElem?_eq_getElem hk0] at hx1
      obtain rfl := Option.some.inj hx1
      have htk : Hid ((P.take (k + 1)).all okPart = ((P.take k).all okPart && okPart (bysN Ls[k]))) := Lib.hid (by
        have hkP : k < P.length := by omega
        rw [List.take_succ_eq_append_getElem hkP, List.all_append]
        rw [List.getElem?_eq_getElem hkP] at hx2
        rw [Option.some.inj hx2]
        simp)
      have hmem : bysN Ls[k] ∈ P := List.mem_of_getElem? hx2
      clear hc hx1 hx2
      generalize Ls[k] = x at *
      go_wp2_with fail
      refine (r12part_any x _ (by omega)).mono ?_
      rintro e w' ⟨rfl, rfl⟩
      cases hp : okPart (bysN x)
      · have hf : Hid (okDen l = false) := Lib.hid (by
          rw [hok.out]
          have h1 : P.all okPart = false := by
            rw [List.all_eq_false]
            exact ⟨_, hmem, by rw [hp]; decide⟩
          rw [h1]; rfl)
        go_wp2_with fail
        go_ret
        exact ⟨by rw [Hln.out, hf.out]; rfl, hb⟩
      · have hf : Hid ((P.take (k + 1)).all okPart = true) := Lib.hid (by rw [htk.out, hq.out, hp]; rfl)
        go_wp2_with fail
        go_roundw
        case rel => exact ⟨k + 1, by omega, by go_num, hf, by trivial⟩
        case measure => simp [intOf]; omega
    · obtain rfl : k = Ls.length := by omega
      have hall : P.all okPart = true := by
        have h9 := hq.out
        rwa [List.take_of_length_le (by omega)] at h9
      have hf : Hid (okDen l = (decide (Ls.length ≤ 5) && decide (s.size ≤ 200))) := Lib.hid (by rw [hok.out, hall, hPl, hl]; rfl)
      clear hall hq hok
      by_cases h1 : Ls.length ≤ 5
      · have h1i : (Ls.length : Int) ≤ 5 := by omega
        by_cases h2 : s.size ≤ 200
        · have h2i : (s.size : Int) ≤ 200 := by omega
          go_wp2_with fail
          go_ret
          exact ⟨by rw [Hln.out, hf.out, decide_eq_true h1, decide_eq_true h2]; rfl, hb⟩
        · have h2i : ¬ (s.size : Int) ≤ 200 := by omega
          go_wp2_with fail
          go_ret
          exact ⟨by rw [Hln.out, hf.out, decide_eq_true h1, decide_eq_false h2]; rfl, hb⟩
      · have h1i : ¬ (Ls.length : Int) ≤ 5 := by omega
        go_wp2_with fail
        go_ret
        exact ⟨by rw [Hln.out, hf.out, decide_eq_false h1]; rfl, hb⟩
end Go.Proofs.YtbimnfmjgmfijaaDoor

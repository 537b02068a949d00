/- Contracts of layer 8 (dict): Find, Get, Len, At; a row of entries cloned. -/
import Derived.Test.YtkahnobignaccaaD1
namespace Go.Proofs.Ytkahnobignaccaa
open Go.RowKit
attribute [local go_sem ↓] Go.wp_at_zero Go.wp_at_succ
def entV (E : List Ent) : List Value := E.flatMap fun x => [.string x.1, .string x.2]
theorem entV_cons (x : Ent) (E : List Ent) : entV (x :: E) = .string x.1 :: .string x.2 :: entV E := rfl
theorem entV_app (E F : List Ent) : entV (E ++ F) = entV E ++ entV F := by simp [entV]
theorem entV_len (E : List Ent) : (entV E).length = E.length * 2 := by
  induction E with
  | nil => rfl
  | cons x E ih => rw [entV_cons]; simp [ih]; omega
theorem entV_one (E : List Ent) : ∀ v ∈ entV E, v.oneCell' = true := by
  intro v hv
  simp [entV] at hv
  obtain ⟨a, b, _, rfl | rfl⟩ := hv <;> rfl
theorem entV_get (E : List Ent) (i : Nat) (hi : i < E.length) : (entV E)[i * 2]? = some (.string E[i].1) ∧ (entV E)[i * 2 + 1]? = some (.string E[i].2) := by
  induction E generalizing i with
  | nil => simp at hi
  | cons x E ih =>
    rw [entV_cons]
    cases i with
    | zero => exact ⟨rfl, rfl⟩
    | succ i =>
      have := ih i (by simpa using hi)
      rw [show (i + 1) * 2 = i * 2 + 1 + 1 by omega]
      simpa using this
theorem EntC.cells {w : World} {g off : Nat} {E : List Ent} (h : EntC w g off E) (j : Nat) (u : Value) (hj : (entV E)[j]? = some u) : w.cell? ⟨g, off + j, none⟩ = some u := by
  have hl : j < E.length * 2 := by rw [← entV_len]; exact (List.getElem?_eq_some_iff.1 hj).1
  have h2 := entV_get E (j / 2) (by omega)
  have h3 := h (j / 2) (by omega)
  rcases Nat.mod_two_eq_zero_or_one j with hm | hm
  · rw [show j / 2 * 2 = j by omega] at h2 h3
    rw [hj] at h2
    rw [h3.1, ← h2.1]
  · rw [show j / 2 * 2 + 1 = j by omega] at h2
    rw [Nat.add_assoc, show j / 2 * 2 + 1 = j by omega] at h3
    rw [hj] at h2
    rw [h3.2, ← h2.2]
theorem EntC.of {w : World} {g off : Nat} {E : List Ent} (h : ∀ j u, (entV E)[j]? = some u → w.cell? ⟨g, off + j, none⟩ = some u) : EntC w g off E := by
  intro i hi
  have h2 := entV_get E i hi
  exact ⟨h _ _ h2.1, by rw [Nat.add_assoc]; exact h _ _ h2.2⟩
theorem own_ents {w : World} {base : Nat} {v : Value} {E : List Ent} (h : w.ownsRow base 26 2 v E.length (entV E)) : Ents w v E := by
  rcases h.2 with ⟨rfl, h0⟩ | ⟨g, cap, cur, rfl, hg, hh, hnc, hcap, hsz, ht⟩
  · exact .inl ⟨List.eq_nil_of_length_eq_zero h0, none, 0, rfl, by decide⟩
  · rcases Nat.eq_zero_or_pos E.length with h0 | h0
    · exact .inl ⟨List.eq_nil_of_length_eq_zero h0, _, cap, by rw [h0], hcap⟩
    · refine .inr ⟨h0, g, 0, cap, rfl, hnc, hcap, EntC.of fun j u hj => ?_⟩
      have hjl : j < E.length * 2 := by rw [← entV_len]; exact (List.getElem?_eq_some_iff.1 hj).1
      rw [Nat.zero_add, World.ownsRow.cellAt h j hjl]
      exact hj
theorem Ents.len {w : World} {v : Value} {E : List Ent} (h : Ents w v E) : ∃ q cap, v = .slice q E.length cap := by
  rcases h with ⟨rfl, q, cap, rfl, _⟩ | ⟨_, g, off, cap, rfl, _⟩
  · exact ⟨q, cap, rfl⟩
  · exact ⟨_, cap, rfl⟩
theorem infoE : (Try.prog.info? 26).map (fun i => (i.zero, i.size, i.bytes)) = some (some (.agg #[.string ⟨#[]⟩, .string ⟨#[]⟩]), 2, 32) := by kernel_rfl
set_option maxHeartbeats 400000 in
theorem clone_any (v : Value) (E : List Ent) (w : World) (hv : Ents w v E) (hl : E.length ≤ 1000000) :
    Calls Try.prog 31 #[v] w fun e w' => ∃ v', e = .returned v' ∧ w'.ownsRow w.heap.size 26 2 v' E.length (entV E) ∧ Below w.heap.size w w' := by
  obtain ⟨i0, hi0, hz0, hz1, hz2⟩ := info_parts infoE
  have hown : (w.alloc (.cells #[] 26)).ownsRow w.heap.size 26 2 (.slice (some ⟨w.heap.size, 0, none⟩) 0 0) 0 [] :=
    ⟨rfl, .inr ⟨w.heap.size, 0, #[], rfl, Nat.le_refl _, Blk.new w 26 #[], Nat.le_refl _, Nat.zero_le _, rfl, rfl⟩⟩
  rcases hv with ⟨rfl, q, cap, rfl, hc⟩ | ⟨h0, g, off, cap, rfl, hc1, hc2, hent⟩
  · rcases q with _ | a
    · have hn : ∀ w, (binOp .eql 23 (.slice none 0 cap) (.slice none 0 0)).run Try.prog w = .ok (.bool true) w := fun w => Lib.run_eql_slice_nil w 23 26 none 0 cap 0 0 Try.underlying23
      go_enter Try.func31, Try.ntmps31
      go_wp2_with fail
      go_ret
      exact ⟨_, rfl, World.ownsRow_nil _ _ _ _, Below.refl _ _⟩
    · have hn : ∀ w, (binOp .eql 23 (.slice (some a) 0 cap) (.slice none 0 0)).run Try.prog w = .ok (.bool false) w := fun w => Lib.run_eql_slice_nil w 23 26 (some a) 0 cap 0 0 Try.underlying23
      have Hown := Lib.hid hown
      clear hown
      go_enter Try.func31, Try.ntmps31
      go_wp2_with (at_builtin; refine wpList_append_own _ rfl _ _ 23 rfl w.heap.size 26 i0 (.agg #[.string ⟨#[]⟩, .string ⟨#[]⟩]) 2 32 Try.underlying23 hi0 hz0 hz1 hz2 rfl (by decide) _ _ _ rfl Hown.out a 0 cap [] rfl rfl (fun j u hj => by simp at hj) (fun u hu => by simp at hu) (by unfold maxLen; omega) (by omega) (by simp) ?_; intro v' w' hown' hg _)
      have hb : Below w.heap.size w w' := (BW_alloc (Below.refl _ _) _).grown hg (by simp) (fun k hk => (Hown.out.lt k hk).1)
      go_ret
      exact ⟨_, rfl, hown', hb⟩
  · have hn : ∀ w, (binOp .eql 23 (.slice (some ⟨g, off, none⟩) E.length cap) (.slice none 0 0)).run Try.prog w = .ok (.bool false) w := fun w => Lib.run_eql_slice_nil w 23 26 (some ⟨g, off, none⟩) E.length cap 0 0 Try.underlying23
    have Hown := Lib.hid hown
    have hent2 : ∀ j u, (entV E)[j]? = some u → (w.alloc (.cells #[] 26)).cell? ((⟨g, off, none⟩ : Addr).add j) = some u := fun j u hj => by
      rw [addr_add]
      exact BW_cell (BW_alloc (Below.refl _ _) _) (hent.cells j u hj)
    have Hent := Lib.hid hent2
    clear hown hent hent2
    go_enter Try.func31, Try.ntmps31
    go_wp2_with (at_builtin; refine wpList_append_own _ rfl _ _ 23 rfl w.heap.size 26 i0 (.agg #[.string ⟨#[]⟩, .string ⟨#[]⟩]) 2 32 Try.underlying23 hi0 hz0 hz1 hz2 rfl (by decide) _ _ _ rfl Hown.out ⟨g, off, none⟩ E.length cap (entV E) rfl (entV_len E) Hent.out (entV_one E) (by unfold maxLen; omega) (by omega) (by simp) ?_; intro v' w' hown' hg _)
    have hb : Below w.heap.size w w' := (BW_alloc (Below.refl _ _) _).grown hg (by simp) (fun k hk => (Hown.out.lt k hk).1)
    go_ret
    exact ⟨_, rfl, by simpa using hown', hb⟩
set_option maxHeartbeats 400000 in
theorem find_any (v : Value) (E : List Ent) (k : ByteArray) (w : World) (hv : Ents w v E) (hs : Srt E) (hl : E.length ≤ 1000000) :
    Calls Try.prog 23 #[.agg #[v], .string k] w fun e w' => e = .returned (.tuple #[.int .i64 (pos E k : Int), .bool (hasK E k)]) ∧ Below w.heap.size w w' := by
  have Hv := Lib.hid hv
  have Hs := Lib.hid hs
  clear hv hs
  go_enter Try.func23, Try.ntmps23
  go_wp2_with fail
  refine (bsf_any v E k _ (Hv.out.on (BW_alloc (Below.refl _ _) _)) Hs.out hl).mono ?_
  rintro e w1 ⟨rfl, hb1⟩
  go_wp2_with fail
  go_ret2
  exact ⟨rfl, BW_on (BW_alloc (Below.refl _ _) _) hb1⟩
def gv (E : List Ent) (k : ByteArray) : ByteArray := (getL E k).getD ⟨#[]⟩
set_option maxHeartbeats 400000 in
theorem get_any (v : Value) (E : List Ent) (k : ByteArray) (w : World) (hv : Ents w v E) (hs : Srt E) (hl : E.length ≤ 1000000) :
    Calls Try.prog 12 #[.agg #[v], .string k] w fun e w' => e = .returned (.tuple #[.string (gv E k), .bool (hasK E k)]) ∧ Below w.heap.size w w' := by
  have hfind := fun w hv => find_any v E k w hv hs hl
  have Hfind := Lib.hid hfind
  have Hv := Lib.hid hv
  have Hs := Lib.hid hs
  clear hv hs hfind
  cases hh : hasK E k with
  | false =>
    have hg : gv E k = ⟨#[]⟩ := by unfold gv; rw [get_none hh]; rfl
    rw [hg]
    rw [hh] at Hfind
    clear hh hg
    go_enter Try.func12, Try.ntmps12
    go_wp2_with fail
    refine (Hfind.out _ (Hv.out.on (BW_alloc (Below.refl _ _) _))).mono ?_
    rintro e w1 ⟨rfl, hb1⟩
    go_wp2_with fail
    go_ret2
    exact ⟨rfl, BW_on (BW_alloc (Below.refl _ _) _) hb1⟩
  | true =>
    obtain ⟨hp, he⟩ := (has_iff Hs.out k).1 hh
    have hg : gv E k = E[pos E k].2 := by unfold gv; rw [get_at hp he]; rfl
    rw [hg]
    rw [hh] at Hfind
    clear hh he
    rcases Hv.out with ⟨rfl, _⟩ | ⟨h0, g, off, cap, rfl, hc1, hc2, hent⟩
    · simp at hp
    have hcell := (hent (pos E k) hp).2
    clear hent hg
    have kb := Blk.new w 28 #[.slice (some ⟨g, off, none⟩) E.length cap]
    go_enter Try.func12, Try.ntmps12
    go_wp2_with fail
    refine (Hfind.out _ (Hv.out.on (BW_alloc (Below.refl _ _) _))).mono ?_
    rintro e w1 ⟨rfl, hb1⟩
    have hB := BW_on (BW_alloc (Below.refl w.heap.size w) (.cells #[.slice (some ⟨g, off, none⟩) E.length cap] 28)) hb1
    have hc := BW_cell hB hcell
    replace kb := kb.on hb1
    have cb := fun i => kb.cell i
    have hpi : (pos E k : Int) < (E.length : Int) := by omega
    clear hcell
    go_wp2_with fail
    go_ret2
    exact ⟨rfl, hB⟩
set_option maxHeartbeats 400000 in
theorem len_any (v : Value) (E : List Ent) (w : World) (hv : Ents w v E) :
    Calls Try.prog 13 #[.agg #[v]] w fun e w' => e = .returned (.int .i64 (E.length : Int)) ∧ Below w.heap.size w w' := by
  obtain ⟨q, cap, rfl⟩ := hv.len
  go_enter Try.func13, Try.ntmps13
  go_wp2_with fail
  go_ret
  exact ⟨rfl, BW_alloc (Below.refl _ _) _⟩
set_option maxHeartbeats 400000 in
theorem all_any (v : Value) (E : List Ent) (w : World) (hv : Ents w v E) (hl : E.length ≤ 1000000) :
    Calls Try.prog 15 #[.agg #[v]] w fun e w' => ∃ v', e = .returned v' ∧ w'.ownsRow w.heap.size 26 2 v' E.length (entV E) ∧ Below w.heap.size w w' := by
  have Hv := Lib.hid hv
  clear hv
  go_enter Try.func15, Try.ntmps15
  go_wp2_with fail
  refine (clone_any v E _ (Hv.out.on (BW_alloc (Below.refl _ _) _)) hl).mono ?_
  rintro e w1 ⟨v', rfl, hown, hb1⟩
  go_wp2_with fail
  go_ret
  exact ⟨_, rfl, own_mono hown (by simp), BW_on (BW_alloc (Below.refl _ _) _) hb1⟩
def atE (E : List Ent) (i : Int) : Ent := if 0 ≤ i then E.getD i.toNat (⟨#[]⟩, ⟨#[]⟩) else (⟨#[]⟩, ⟨#[]⟩)
set_option maxHeartbeats 400000 in
theorem at_any (v : Value) (E : List Ent) (i : Int) (w : World) (hv : Ents w v E) :
    Calls Try.prog 24 #[.agg #[v], .int .i64 i] w fun e w' => e = .returned (.agg #[.string (atE E i).1, .string (atE E i).2]) ∧ Below w.heap.size w w' := by
  by_cases hin : 0 ≤ i ∧ i < E.length
  · obtain ⟨n, rfl⟩ := Int.eq_ofNat_of_zero_le hin.1
    have hn : n < E.length := by omega
    have he : atE E (n : Int) = E[n] := by
      unfold atE
      rw [if_pos hin.1, Int.toNat_natCast, List.getD_eq_getElem?_getD, List.getElem?_eq_getElem hn]; rfl
    rw [he]
    rcases hv with ⟨rfl, _⟩ | ⟨h0, g, off, cap, rfl, hc1, hc2, hent⟩
    · simp at hn
    have hc := hent n hn
    have hn1 : ¬ ((n : Int) < 0) := by omega
    have hn2 : (n : Int) < (E.length : Int) := by omega
    have hn3 : ¬ ((E.length : Int) ≤ (n : Int)) := by omega
    have hBB := BW_alloc (BW_alloc (BW_refl w) (.cells #[.slice (some ⟨g, off, none⟩) E.length cap] 28)) (.cells #[.string ⟨#[]⟩, .string ⟨#[]⟩] 26)
    have hc1' := BW_cell hBB hc.1
    have hc2' := BW_cell hBB hc.2
    clear he hin hent hc hBB
    have hcc := fun i => (blk2 w (.cells #[.slice (some ⟨g, off, none⟩) E.length cap] 28) 26 #[.string E[n].1, .string E[n].2]).cell i
    have Hcc := Lib.hid hcc
    clear hcc
    go_enter Try.func24, Try.ntmps24
    go_wp2_with fail
    have hcc := Hcc.out
    refine bodyPost_ret (v := .agg #[.string E[n].1, .string E[n].2]) (by simp [results, Try.results24, go_sem, hcc]) rfl ⟨rfl, BW_alloc (BW_alloc (Below.refl _ _) _) _⟩
  · have he : atE E i = (⟨#[]⟩, ⟨#[]⟩) := by
      unfold atE
      split
      · rw [List.getD_eq_getElem?_getD, List.getElem?_eq_none (by omega)]; rfl
      · rfl
    rw [he]
    obtain ⟨q, cap, rfl⟩ := hv.len
    have hcc := fun i => (blk2 w (.cells #[.slice q E.length cap] 28) 26 #[.string ⟨#[]⟩, .string ⟨#[]⟩]).cell i
    have Hcc := Lib.hid hcc
    have hd : i < 0 ∨ (¬ i < 0 ∧ (E.length : Int) ≤ i) := by omega
    have Hd := Lib.hid hd
    clear he hin hcc hd
    rcases Hd.out with h | ⟨h, h2⟩
    all_goals
      go_enter Try.func24, Try.ntmps24
      go_wp2_with fail
      have hcc := Hcc.out
      refine bodyPost_ret (v := .agg #[.string ⟨#[]⟩, .string ⟨#[]⟩]) (by simp [results, Try.results24, go_sem, hcc]) rfl ⟨rfl, BW_alloc (BW_alloc (Below.refl _ _) _) _⟩
end Go.Proofs.Ytkahnobignaccaa

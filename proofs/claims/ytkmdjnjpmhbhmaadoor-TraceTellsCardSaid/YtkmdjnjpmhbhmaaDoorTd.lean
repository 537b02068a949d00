/- Contracts of layer 12 (trace): hops, base, prefix, what comes off, escrow, joins, parts; the document's. -/
import Derived.Test.YtkmdjnjpmhbhmaaDoorTq
import Derived.Test.YtkmdjnjpmhbhmaaDoorTc
import Derived.Test.YtkmdjnjpmhbhmaaDoorS1
namespace Go.Proofs.YtkmdjnjpmhbhmaaDoor
open Go.RowKit
attribute [local go_sem ↓] Go.wp_at_zero Go.wp_at_succ
theorem hops_nat (s : ByteArray) (h : okDen (bysN s) = true) : Lib.countByte s.data.toList 47 = pHops (bysN s) := by
  unfold pHops
  rw [if_pos h, count_bysN]
  unfold parts
  rw [pcut_len]
  rfl
theorem hops_any (s : ByteArray) (w : World) (hs : s.size ≤ 1000000) : Calls Tryd.prog 34 #[.string s] w fun e w' => e = .returned (.int .i64 ((pHops (bysN s) : Nat) : Int)) ∧ Below w.heap.size w w' := by
  go_enter Tryd.func34, Tryd.ntmps34
  go_wp2_with (go_at_call 33; refine (check_any s _ hs).mono ?_)
  rintro e w1 ⟨rfl, hb⟩
  cases hok : okDen (bysN s)
  · go_wp2
    go_ret
    exact ⟨by unfold pHops; rw [hok]; rfl, hb⟩
  · have hh := Lib.hid (hops_nat s hok)
    go_wp2_with (go_at_call 65; refine (Tryd.strings_Count_one s 47 _).mono ?_; rintro e w' ⟨rfl, rfl⟩)
    go_ret
    exact ⟨by rw [← hh.out]; rfl, hb⟩
theorem base_any (s : ByteArray) (w : World) (hs : s.size ≤ 1000000) : Calls Tryd.prog 35 #[.string s] w fun e w' => ∃ t, e = .returned (.string t) ∧ bysN t = pBase (bysN s) ∧ Below w.heap.size w w' := by
  obtain ⟨k, hk1, hk2, hk3⟩ := last_any s
  have Hk := Lib.hid hk3
  have hl := bysN_len s
  clear hk3
  go_enter Tryd.func35, Tryd.ntmps35
  go_wp2_with (go_at_call 33; refine (check_any s _ hs).mono ?_)
  rintro e w1 ⟨rfl, hb⟩
  cases hok : okDen (bysN s)
  · go_wp2
    go_ret
    exact ⟨_, rfl, by unfold pBase; rw [hok]; rfl, hb⟩
  · have hw : wrap64 ((k : Int) - 1 + 1) = (k : Int) := by unfold wrap64; omega
    have hkz : (k : Int) ≤ (s.size : Int) := by omega
    have hL : Lib.lastIndexByte s (((⟨#[47]⟩ : ByteArray)[0]).toNat : Int) = (k : Int) - 1 := by
      have : Lib.lastIndexByte s 47 = (k : Int) - 1 := by omega
      exact this
    go_wp2_with (go_at_call 66; refine (Tryd.strings_LastIndex_one s ⟨#[47]⟩ rfl (by omega) _).mono ?_; rintro e w' ⟨rfl, rfl⟩; rw [hL])
    go_ret
    exact ⟨_, rfl, by unfold pBase; rw [hok, bysN_extract, List.take_of_length_le (by omega)]; exact Hk.out, hb⟩
theorem prefix_any (c d : ByteArray) (w : World) (hc : c.size ≤ 1000000) (hd : d.size ≤ 1000000) : Calls Tryd.prog 29 #[.string c, .string d] w fun e w' => ∃ t, e = .returned (.string t) ∧ bysN t = bysN c ++ 47 :: bysN d ∧ w = w' := by
  obtain ⟨t1, h1, a1⟩ := cat_big c ⟨#[47]⟩ (by show c.size + 1 ≤ _; omega)
  have hs1 : t1.size = c.size + 1 := by rw [← bysN_len, h1, List.length_append, bysN_len]; rfl
  obtain ⟨t2, h2, a2⟩ := cat_big t1 d (by omega)
  have H : Hid (bysN t2 = bysN c ++ 47 :: bysN d) := Lib.hid (by rw [h2, h1, List.append_assoc]; rfl)
  clear h1 h2
  go_enter Tryd.func29, Tryd.ntmps29
  go_wp2
  go_ret
  exact ⟨_, rfl, H.out, rfl⟩
theorem escrow_any (c : ByteArray) (w : World) (hc : c.size ≤ 1000000) : Calls Tryd.prog 30 #[.string c] w fun e w' => ∃ t, e = .returned (.string t) ∧ bysN t = [101, 115, 99, 114, 111, 119, 47] ++ bysN c ∧ w = w' := by
  obtain ⟨t1, h1, a1⟩ := cat_big ⟨#[101, 115, 99, 114, 111, 119, 47]⟩ c (by show 7 + c.size ≤ _; omega)
  have H : Hid (bysN t1 = [101, 115, 99, 114, 111, 119, 47] ++ bysN c) := Lib.hid h1
  clear h1
  go_enter Tryd.func30, Tryd.ntmps30
  go_wp2
  go_ret
  exact ⟨_, rfl, H.out, rfl⟩
theorem isPrefix_map (a b : List UInt8) : a.isPrefixOf b = (a.map UInt8.toNat).isPrefixOf (b.map UInt8.toNat) := by
  induction a generalizing b with
  | nil => simp
  | cons x r ih =>
    cases b with
    | nil => rfl
    | cons y q =>
      rw [List.map_cons, List.map_cons, List.isPrefixOf_cons_cons, List.isPrefixOf_cons_cons, ih]
      congr 1
      by_cases h : x = y
      · subst h; simp
      · have h2 : x.toNat ≠ y.toNat := fun h3 => h (UInt8.toNat.inj h3)
        rw [beq_eq_false_iff_ne.2 h, beq_eq_false_iff_ne.2 h2]
theorem hasPrefix_bys (s p : ByteArray) : Lib.hasPrefix s.data.toList p.data.toList = (bysN p).isPrefixOf (bysN s) := isPrefix_map _ _
theorem returns_any (c d : ByteArray) (w : World) (hc : c.size ≤ 1000000) (hd : d.size ≤ 1000000) : Calls Tryd.prog 27 #[.string c, .string d] w fun e w' =>
    ∃ t, e = .returned (.tuple #[.string t, .bool (okRet (bysN c) (bysN d))]) ∧ bysN t = pRet (bysN c) (bysN d) ∧ Below w.heap.size w w' := by
  obtain ⟨t1, h1, a1⟩ := cat_big c ⟨#[47]⟩ (by show c.size + 1 ≤ _; omega)
  have hp := hasPrefix_bys d t1
  have ht1 : t1.size = c.size + 1 := by rw [← bysN_len, h1, List.length_append, bysN_len]; rfl
  rw [show bysN t1 = bysN c ++ [47] from h1] at hp
  have hcl := bysN_len c
  have hdl := bysN_len d
  obtain ⟨r, hr, hrs⟩ : ∃ r : ByteArray, (⟨(Lib.trimPrefix d.data.toList t1.data.toList).toArray⟩ : ByteArray) = r ∧ r.size ≤ d.size := ⟨_, rfl, by
    rw [Lib.size_eq, Lib.size_eq d]; exact Lib.trimPrefix_le _ _⟩
  have hrb : Hid ((bysN c ++ [47]).isPrefixOf (bysN d) = true → bysN r = (bysN d).drop (c.size + 1)) := Lib.hid (fun h => by
    rw [← hr]
    unfold Lib.trimPrefix
    rw [hp, h, if_pos rfl]
    unfold bysN
    rw [List.map_drop]
    rw [← ht1, Lib.size_eq])
  clear h1
  obtain ⟨pv, hpp⟩ : ∃ pv, (bysN c ++ [47]).isPrefixOf (bysN d) = pv := ⟨_, rfl⟩
  rw [hpp] at hp
  have Hp := Lib.hid hp
  have Hpp := Lib.hid hpp
  clear hp hpp
  cases pv
  · have hpp := Hpp.out
    have hf : Hid (okRet (bysN c) (bysN d) = false) := Lib.hid (by unfold okRet; rw [hpp]; rfl)
    clear hpp
    go_enter Tryd.func27, Tryd.ntmps27
    go_wp2_with (go_at_call 62; refine (Tryd.strings_CutPrefix _ _ _).mono ?_; rintro e w' ⟨rfl, rfl⟩; rw [hr, Hp.out])
    go_ret2
    exact ⟨_, by rw [hf.out]; rfl, by unfold pRet; rw [hf.out]; rfl, BW_refl _⟩
  · have hpp := Hpp.out
    have hbr := hrb.out hpp
    have hf : Hid (okRet (bysN c) (bysN d) = okDen (bysN r)) := Lib.hid (by unfold okRet; rw [hpp, hbr, hcl]; rfl)
    have Hbr := Lib.hid hbr
    clear hbr hrb hpp
    go_enter Tryd.func27, Tryd.ntmps27
    go_wp2_with (first | (go_at_call 62; refine (Tryd.strings_CutPrefix _ _ _).mono ?_; rintro e w' ⟨rfl, rfl⟩; rw [hr, Hp.out]) | (go_at_call 33; refine (check_any r _ (by omega)).mono ?_))
    rintro e w1 ⟨rfl, hb⟩
    cases hok : okDen (bysN r)
    · go_wp2
      go_ret2
      exact ⟨_, by rw [hf.out, hok]; rfl, by unfold pRet; rw [hf.out, hok]; rfl, hb⟩
    · go_wp2
      go_ret2
      exact ⟨_, by rw [hf.out, hok]; rfl, by unfold pRet; rw [hf.out, hok, if_pos rfl, Hbr.out, hcl], hb⟩
/-- A row of texts whose room is known: for strings.Join. -/
def JRow (w : World) (v : Value) (Ls : List ByteArray) : Prop := ∃ p cap, v = .slice p Ls.length cap ∧ (0 < Ls.length → Ls.length ≤ cap ∧ ∃ g off, p = some ⟨g, off, none⟩ ∧ g < w.heap.size ∧ ∀ (j : Nat) x, Ls[j]? = some x → w.cell? ⟨g, off + j, none⟩ = some (.string x))
theorem join_any (v : Value) (Ls : List ByteArray) (w : World) (hv : JRow w v Ls) (hn : (pjoin (Ls.map bysN)).length ≤ 1000000) (hl : Ls.length ≤ 1000000) :
    Calls Tryd.prog 38 #[v] w fun e w' => ∃ t, e = .returned (.string t) ∧ bysN t = pjoin (Ls.map bysN) ∧ Below w.heap.size w w' := by
  obtain ⟨p, cap, rfl, h⟩ := hv
  have hj := join_bys Ls
  rcases Nat.eq_zero_or_pos Ls.length with h0 | h0
  · have e0 := List.eq_nil_of_length_eq_zero h0
    subst e0
    clear h hj
    go_enter Tryd.func38, Tryd.ntmps38
    go_wp2_with (go_at_call 77; refine (Tryd.strings_Join_none _ _ _ _).mono ?_; rintro e w' ⟨rfl, rfl⟩)
    go_ret
    exact ⟨_, rfl, rfl, BW_refl _⟩
  · obtain ⟨hc, g, off, rfl, hg, hcl⟩ := h h0
    have Hcl := Lib.hid hcl
    have Hj := Lib.hid hj
    have Hn : Hid ((Lib.join (Ls.map (·.data.toList)) slash.data.toList).length ≤ 140737488355328) := Lib.hid (by
      rw [← hj] at hn
      rw [show (Lib.join (Ls.map (·.data.toList)) slash.data.toList).length = (bysN ⟨(Lib.join (Ls.map (·.data.toList)) slash.data.toList).toArray⟩).length by unfold bysN; simp]
      omega)
    clear hcl hj hn h
    go_enter Tryd.func38, Tryd.ntmps38
    go_wp2_with (go_at_call 77; refine (Tryd.strings_Join g off cap Ls slash _ Hcl.out hg (by omega) hc Hn.out).mono ?_)
    rintro e w1 ⟨rfl, hb⟩
    go_wp2
    go_ret
    exact ⟨_, rfl, Hj.out, hb⟩
theorem pcut_le : ∀ (l cur x : List Nat), x ∈ pcut cur l → x.length ≤ cur.length + l.length
  | [], cur, x, h => by simp [pcut] at h; subst h; simp
  | c :: r, cur, x, h => by
    rw [pcut] at h
    split at h
    · rcases List.mem_cons.1 h with rfl | h
      · simp
      · have := pcut_le r [] x h; simp at this ⊢; omega
    · have := pcut_le r _ x h; simp at this ⊢; omega
theorem parts_le {l x : List Nat} (h : x ∈ parts l) : x.length ≤ l.length := by have := pcut_le l [] x h; simpa using this
theorem parts_any (s : ByteArray) (m : Int) (w : World) (hs : s.size ≤ 1000000) (hm : w.cell? ⟨1, 0, none⟩ = some (.int .i64 m)) :
    Calls Tryd.prog 39 #[.string s] w fun e w' => ∃ v Ls, e = .returned v ∧ Strs w' v Ls ∧ Ls.map bysN = parts (bysN s) ∧ (∀ x ∈ Ls, x.size ≤ s.size) ∧ Ls.length ≤ s.size + 1 ∧ Below w.heap.size w w' := by
  obtain ⟨h1, h2⟩ := split_parts s.size s (Nat.le_refl _)
  have hlen : (Lib.splitB slash 0 (Lib.countB s slash) s).length = Lib.countB s slash + 1 := by rw [← h2, ← h1, List.length_map]
  have hbl := bysN_len s
  generalize hL : Lib.splitB slash 0 (Lib.countB s slash) s = Ls at *
  have HL := Bx9.mk hL
  have H1 := Bx9.mk h1
  have H2 := Bx9.mk h2
  have H3 := Bx9.mk hlen
  clear hL h1 h2 hlen
  go_enter Tryd.func39, Tryd.ntmps39
  go_wp2_with (go_at_call 78; refine (Tryd.strings_Split s slash m _ (by omega) hm (by decide)).mono ?_)
  rintro e w1 ⟨rfl, rfl⟩
  rw [HL.out]
  go_wp2
  go_ret
  refine ⟨_, Ls, rfl, ⟨some ⟨w.heap.size, 0, none⟩, Lib.countB s slash + 1, by rw [H3.out]; rfl, fun h0 => ⟨_, _, rfl, fun i hi => ?_⟩⟩, H1.out, ?_, ?_, (Below.refl _ w).alloc (Nat.le_refl _) _⟩
  · rw [(blk1 w 9 _).cell, Nat.zero_add]
    simp [hi]
  · intro x hx
    have h := parts_le (H1.out ▸ List.mem_map_of_mem hx)
    rw [bysN_len, bysN_len] at h
    exact h
  · have h := pcut_len (bysN s) []
    have h4 : (parts (bysN s)).length = (bysN s).count 47 + 1 := h
    have h5 := List.count_le_length (a := 47) (l := bysN s)
    rw [← H1.out, List.length_map] at h4
    omega
end Go.Proofs.YtkmdjnjpmhbhmaaDoor

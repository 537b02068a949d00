/- Contracts of layer 8 (dict): Put, Drop. -/
import Derived.Test.YtkahnobignaccaaD4
namespace Go.Proofs.Ytkahnobignaccaa
open Go.RowKit
attribute [local go_sem ↓] Go.wp_at_zero Go.wp_at_succ
theorem insert_any (base : Nat) (v : Value) (n vb i : Nat) (E : List Ent) (k x : ByteArray) (w : World) (hn : E.length = n) (hi : i ≤ n) (hn2 : n ≤ 1000000) (hown : w.ownsRow base 26 2 v n (entV E)) (hbase : base ≤ w.heap.size) (hv : Blk w vb 26 #[.string k, .string x]) (hvb : ∀ g, v.ownBlock = some g → vb ≠ g) :
    Calls Try.prog 32 #[v, .int .i64 (i : Int), .slice (some ⟨vb, 0, none⟩) 1 1] w fun e w' => ∃ v', e = .returned v' ∧ w'.ownsRow base 26 2 v' (n + 1) (entV (insL E i k x)) ∧ Below base w w' := by
  rcases Nat.lt_or_ge i n with h | h
  · obtain ⟨g, cap, rfl, _, _, hnc, _⟩ : ∃ g cap, v = .slice (some ⟨g, 0, none⟩) n cap ∧ base ≤ g ∧ True ∧ n ≤ cap ∧ True := by
      obtain ⟨g, cap, cur, rfl, hg, _, hnc, _⟩ := own_row hown (by omega)
      exact ⟨g, cap, rfl, hg, trivial, hnc, trivial⟩
    rcases Nat.lt_or_ge n cap with hc | hc
    · exact insert_room base g n cap vb i E k x w hn h hn2 hc hown hv (hvb g rfl)
    · obtain rfl : cap = n := by omega
      exact insert_grow base g cap vb i E k x w hn h hn2 hbase hown hv
  · obtain rfl : i = n := by omega
    exact insert_end base v i vb E k x w hn hn2 hown hbase hv
theorem putL_no {E : List Ent} {k x : ByteArray} (h : hasK E k = false) : putL E k x = insL E (pos E k) k x := by
  unfold putL insL hitN
  rw [h]
  simp
theorem putL_yes {E : List Ent} (hs : Srt E) {k x : ByteArray} (h : hasK E k = true) : entV (putL E k x) = (entV E).set (pos E k * 2 + 1) (.string x) ∧ (putL E k x).length = E.length := by
  obtain ⟨hp, he⟩ := (has_iff hs k).1 h
  have hh : hitN E k = 1 := by unfold hitN; rw [h]; rfl
  have hl := put_len hs k x
  refine ⟨?_, by omega⟩
  unfold putL
  rw [hh, entV_app, entV_cons, entV_take, entV_drop]
  have hEl := entV_len E
  have hgt := entV_get E (pos E k) hp
  rw [he] at hgt
  apply List.ext_getElem?
  intro j
  have htl : ((entV E).take (pos E k * 2)).length = pos E k * 2 := by rw [List.length_take]; omega
  by_cases c1 : j < pos E k * 2
  · rw [List.getElem?_append_left (by omega), List.getElem?_take_of_lt c1, List.getElem?_set_ne (by omega)]
  · rw [List.getElem?_append_right (by omega), htl]
    rcases Nat.lt_trichotomy j (pos E k * 2 + 1) with c2 | c2 | c2
    · obtain rfl : j = pos E k * 2 := by omega
      rw [List.getElem?_set_ne (by omega), hgt.1]; simp
    · subst c2
      rw [List.getElem?_set_self (by omega), show pos E k * 2 + 1 - pos E k * 2 = 1 by omega]; rfl
    · rw [List.getElem?_set_ne (by omega), show j - pos E k * 2 = (j - (pos E k + 1) * 2) + 1 + 1 by omega]
      simp
      congr 1
      omega
set_option maxHeartbeats 1000000 in
theorem put_size (v : Value) (k x : ByteArray) (w : World) (h : 400 < k.size ∨ 4000 < x.size) :
    Calls Try.prog 11 #[.agg #[v], .string k, .string x] w fun e w' => e = .returned (.tuple #[.agg #[.slice none 0 0], .int .i64 11]) ∧ Below w.heap.size w w' := by
  have hcc := fun i => (blk2 w (.cells #[v] 28) 28 #[.slice none 0 0]).cell i
  have Hcc := Lib.hid hcc
  have h' : (400 : Int) < (k.size : Int) ∨ (¬ (400 : Int) < (k.size : Int) ∧ (4000 : Int) < (x.size : Int)) := by omega
  have H' := Lib.hid h'
  clear hcc h h'
  rcases H'.out with h1 | ⟨h1, h2⟩
  all_goals
    go_enter Try.func11, Try.ntmps11
    go_wp2_with fail
    have hcc := Hcc.out
    refine bodyPost_ret (v := .tuple #[.agg #[.slice none 0 0], .int .i64 11]) (by simp [results, Try.results11, go_sem, hcc]) rfl ⟨rfl, BW_alloc (BW_alloc (Below.refl _ _) _) _⟩
def putOk (E : List Ent) (k x : ByteArray) : Prop := k.size ≤ 400 ∧ x.size ≤ 4000 ∧ (hasK E k = true ∨ E.length < 2000)
set_option maxHeartbeats 2000000 in
theorem put_has (v : Value) (E : List Ent) (k x : ByteArray) (w : World) (hv : Ents w v E) (hs : Srt E) (hl : E.length ≤ 2000) (hk : k.size ≤ 400) (hx : x.size ≤ 4000) (hh : hasK E k = true) :
    Calls Try.prog 11 #[.agg #[v], .string k, .string x] w fun e w' => ∃ v', e = .returned (.tuple #[.agg #[v'], .int .i64 0]) ∧ Ents w' v' (putL E k x) ∧ Below w.heap.size w w' := by
  obtain ⟨hput, hlen⟩ := putL_yes hs (x := x) hh
  obtain ⟨hp, _⟩ := (has_iff hs k).1 hh
  have hfind := fun w hv => find_any v E k w hv hs (by omega)
  rw [hh] at hfind
  have hclone := fun w hv => clone_any v E w hv (by omega)
  have Hv := Lib.hid hv
  have Hfind := Lib.hid hfind
  have Hclone := Lib.hid hclone
  have Hput := Lib.hid hput
  have Hlen := Lib.hid hlen
  clear hfind hclone hput hlen hh hs hv
  generalize hR : putL E k x = R at *
  clear hR
  have hk1 : ¬ ((400 : Int) < (k.size : Int)) := by omega
  have hx1 : ¬ ((4000 : Int) < (x.size : Int)) := by omega
  go_enter Try.func11, Try.ntmps11
  go_wp2_with fail
  refine (Hfind.out _ (Hv.out.on (BW_alloc (BW_alloc (BW_refl w) _) _))).mono ?_
  rintro e w1 ⟨rfl, hb1⟩
  have kb := ((blk1 w 28 #[v]).alloc (.cells #[.slice none 0 0] 28)).on hb1
  have kr := (blk2 w (.cells #[v] 28) 28 #[.slice none 0 0]).on hb1
  have hB1 := BW_on (BW_alloc (BW_alloc (BW_refl w) (.cells #[v] 28)) (.cells #[.slice none 0 0] 28)) hb1
  have cb := fun i => kb.cell i
  go_wp2_with fail
  refine (Hclone.out _ (Hv.out.on hB1)).mono ?_
  rintro e w2 ⟨v2, rfl, hown, hb2⟩
  clear cb
  have hkrl := kr.lt
  replace kr := kr.on hb2
  have hB2 := BW_on hB1 hb2
  have hw1 := hB1.size
  obtain ⟨g, cap, cur, rfl, hg, hkk, hnc, hcap, hsz, ht⟩ := own_row hown (by omega)
  have hcell := hown.cellAt (pos E k * 2 + 1) (by omega)
  obtain ⟨old, hold⟩ : ∃ old, (entV E)[pos E k * 2 + 1]? = some old := ⟨_, (entV_get E (pos E k) hp).2⟩
  rw [hold] at hcell
  have hfz := hown.frozenAt (pos E k * 2 + 1)
  have Hst := Lib.hid (hown.stored (pos E k * 2 + 1) (.string x)).1
  have fr := fun i => kr.free i
  have cr := fun i => kr.cell i
  have hpi : (pos E k : Int) < (E.length : Int) := by omega
  have hne : w.heap.size + 1 ≠ g := by omega
  clear hown hkk ht hold
  go_wp2_with fail
  have hk2 := (kr.off (p := ⟨g, pos E k * 2 + 1, none⟩) hne (.string x)).set_ 0 (.slice (some ⟨g, 0, none⟩) E.length cap)
  have hcc := fun i => hk2.cell i
  have hown3 : ((w2.setCell ⟨g, pos E k * 2 + 1, none⟩ (.string x)).setCell ⟨w.heap.size + 1, 0, none⟩ (.slice (some ⟨g, 0, none⟩) E.length cap)).ownsRow w1.heap.size 26 2 (.slice (some ⟨g, 0, none⟩) E.length cap) E.length (entV R) := by
    rw [Hput.out]
    exact ownsRow_setCell_below Hst.out hkrl _
  rw [← Hlen.out] at hown3
  have hents := own_ents hown3
  rw [Hlen.out] at hents
  refine bodyPost_ret (v := .tuple #[.agg #[.slice (some ⟨g, 0, none⟩) E.length cap], .int .i64 0]) (by simp [results, Try.results11, go_sem, hcc]) rfl ⟨_, rfl, hents, BW_off (by simp) _ (BW_off (by show w.heap.size ≤ g; omega) _ hB2)⟩
set_option maxHeartbeats 2000000 in
theorem put_full (v : Value) (E : List Ent) (k x : ByteArray) (w : World) (hv : Ents w v E) (hs : Srt E) (hl : E.length = 2000) (hk : k.size ≤ 400) (hx : x.size ≤ 4000) (hh : hasK E k = false) :
    Calls Try.prog 11 #[.agg #[v], .string k, .string x] w fun e w' => e = .returned (.tuple #[.agg #[.slice none 0 0], .int .i64 15]) ∧ Below w.heap.size w w' := by
  have hfind := fun w hv => find_any v E k w hv hs (by omega)
  rw [hh] at hfind
  have hclone := fun w hv => clone_any v E w hv (by omega)
  rw [hl] at hclone
  have Hv := Lib.hid hv
  have Hfind := Lib.hid hfind
  have Hclone := Lib.hid hclone
  clear hfind hclone hh hs hv hl
  have hk1 : ¬ ((400 : Int) < (k.size : Int)) := by omega
  have hx1 : ¬ ((4000 : Int) < (x.size : Int)) := by omega
  go_enter Try.func11, Try.ntmps11
  go_wp2_with fail
  refine (Hfind.out _ (Hv.out.on (BW_alloc (BW_alloc (BW_refl w) _) _))).mono ?_
  rintro e w1 ⟨rfl, hb1⟩
  have kb := ((blk1 w 28 #[v]).alloc (.cells #[.slice none 0 0] 28)).on hb1
  have kr := (blk2 w (.cells #[v] 28) 28 #[.slice none 0 0]).on hb1
  have hB1 := BW_on (BW_alloc (BW_alloc (BW_refl w) (.cells #[v] 28)) (.cells #[.slice none 0 0] 28)) hb1
  have cb := fun i => kb.cell i
  go_wp2_with fail
  refine (Hclone.out _ (Hv.out.on hB1)).mono ?_
  rintro e w2 ⟨v2, rfl, hown, hb2⟩
  clear cb
  replace kr := kr.on hb2
  have hB2 := BW_on hB1 hb2
  obtain ⟨g, cap, cur, rfl, hg, hkk, hnc, hcap, hsz, ht⟩ := own_row hown (by omega)
  have fr := fun i => kr.free i
  have cr := fun i => kr.cell i
  clear hown hkk ht
  go_wp2_with fail
  have hcc := fun i => (kr.set_ 0 (.slice none 0 0)).cell i
  refine bodyPost_ret (v := .tuple #[.agg #[.slice none 0 0], .int .i64 15]) (by simp [results, Try.results11, go_sem, hcc]) rfl ⟨rfl, BW_off (by simp) _ hB2⟩
set_option maxHeartbeats 2000000 in
set_option maxRecDepth 100000 in
theorem put_new (v : Value) (E : List Ent) (k x : ByteArray) (w : World) (hv : Ents w v E) (hs : Srt E) (hl : E.length < 2000) (hk : k.size ≤ 400) (hx : x.size ≤ 4000) (hh : hasK E k = false) :
    Calls Try.prog 11 #[.agg #[v], .string k, .string x] w fun e w' => ∃ v', e = .returned (.tuple #[.agg #[v'], .int .i64 0]) ∧ Ents w' v' (putL E k x) ∧ Below w.heap.size w w' := by
  have hput : putL E k x = insL E (pos E k) k x := putL_no hh
  have hple := pos_le E k
  have hfind := fun w hv => find_any v E k w hv hs (by omega)
  rw [hh] at hfind
  have hclone := fun w hv => clone_any v E w hv (by omega)
  have hinsl : (insL E (pos E k) k x).length = E.length + 1 := by
    have h1 := put_len hs k x
    have h2 : hitN E k = 0 := by unfold hitN; rw [hh]; rfl
    rw [← hput]; omega
  have hins := fun base v' vb w hown hbase hvb hne => insert_any base v' E.length vb (pos E k) E k x w rfl hple (by omega) hown hbase hvb hne
  rw [← hput] at hins hinsl
  have Hv := Lib.hid hv
  have Hfind := Lib.hid hfind
  have Hclone := Lib.hid hclone
  have Hins := Lib.hid hins
  have Hlen := Lib.hid hinsl
  clear hfind hclone hh hs hv hins hput hinsl
  generalize putL E k x = R at *
  have hk1 : ¬ ((400 : Int) < (k.size : Int)) := by omega
  have hx1 : ¬ ((4000 : Int) < (x.size : Int)) := by omega
  have hl1 : ¬ ((2000 : Int) ≤ (E.length : Int)) := by omega
  go_enter Try.func11, Try.ntmps11
  go_wp2_with fail
  refine (Hfind.out _ (Hv.out.on (BW_alloc (BW_alloc (BW_refl w) _) _))).mono ?_
  rintro e w1 ⟨rfl, hb1⟩
  have kb := ((blk1 w 28 #[v]).alloc (.cells #[.slice none 0 0] 28)).on hb1
  have kr := (blk2 w (.cells #[v] 28) 28 #[.slice none 0 0]).on hb1
  have hB1 := BW_on (BW_alloc (BW_alloc (BW_refl w) (.cells #[v] 28)) (.cells #[.slice none 0 0] 28)) hb1
  have cb := fun i => kb.cell i
  go_wp2_with fail
  refine (Hclone.out _ (Hv.out.on hB1)).mono ?_
  rintro e w2 ⟨v2, rfl, hown, hb2⟩
  clear cb
  have hkrl := kr.lt
  replace kr := kr.on hb2
  have hB2 := BW_on hB1 hb2
  have hw1 := hB1.size
  have hw2 := hb2.size
  have Hown := Lib.hid (hown.alloc (.cells #[.string k, .string x] 26))
  have Hne : Hid (∀ g, v2.ownBlock = some g → w2.heap.size ≠ g) := fun g hg => by have := (hown.lt g hg).2; omega
  obtain ⟨q, cap, rfl⟩ : ∃ q cap, v2 = .slice q E.length cap := (own_ents hown).len
  have kv := Blk.new w2 26 #[.string k, .string x]
  have hB2' := BW_alloc hB2 (.cells #[.string k, .string x] 26)
  have kr' := kr.alloc (.cells #[.string k, .string x] 26)
  clear hown
  go_wp2_with fail
  refine (Hins.out w1.heap.size _ w2.heap.size _ Hown.out (by simp; omega) kv Hne.out).mono ?_
  rintro e w3 ⟨v3, rfl, hown3, hb3⟩
  have kr3 := kr'.below hb3 hkrl
  have hB3 : Below w.heap.size w w3 := hB2'.trans (hb3.mono hw1)
  have fr := fun i => kr3.free i
  have cr := fun i => kr3.cell i
  have hents3 := hown3
  rw [← Hlen.out] at hents3
  obtain ⟨q3, cap3, rfl⟩ : ∃ q cap, v3 = .slice q R.length cap := (own_ents hents3).len
  have Hents := Lib.hid (own_ents (ownsRow_setCell_below hents3 (show (⟨w.heap.size + 1, 0, none⟩ : Addr).block < w1.heap.size from hkrl) (.slice q3 R.length cap3)))
  clear hown3 hents3 kv
  go_wp2_with fail
  have hcc := fun i => (kr3.set_ 0 (.slice q3 R.length cap3)).cell i
  refine bodyPost_ret (v := .tuple #[.agg #[.slice q3 R.length cap3], .int .i64 0]) (by simp [results, Try.results11, go_sem, hcc]) rfl ⟨_, rfl, Hents.out, BW_off (by simp) _ hB3⟩
end Go.Proofs.Ytkahnobignaccaa

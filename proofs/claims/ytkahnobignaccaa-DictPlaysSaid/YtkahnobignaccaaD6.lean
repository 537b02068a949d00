/- Contracts of layer 8 (dict): Same, Drop, Range. -/
import Derived.Test.YtkahnobignaccaaD5
import Derived.Laws.StructEq
namespace Go.Proofs.Ytkahnobignaccaa
open Go.RowKit
attribute [local go_sem ↓] Go.wp_at_zero Go.wp_at_succ
theorem eqEnt (a b c d : ByteArray) (w : World) : (Op.equalIn 10000 26 (.agg #[.string a, .string b]) (.agg #[.string c, .string d])).run Try.prog w = .ok (decide (a = c) && decide (b = d)) w := by
  have u9 := Try.underlying9
  have a9 := Try.isAgg9
  have z9 := Try.sizeOf9
  have hS : Try.prog.underlying 26 = some (.struct (Try.prog.fieldsOf 26)) := by kernel_rfl
  have hp : Try.prog.stoodInHeld 26 = false := by kernel_rfl
  rw [show (10000 : Nat) = 9999 + 1 from rfl, run_equalIn_agg w 9999 26 _ _ hS hp]
  simp only [Program.fieldsOf, Try.underlying26]
  go_simp
  rw [← beq_kl a c, ← beq_kl b d]
  by_cases h1 : a.toList = c.toList <;> by_cases h2 : b.toList = d.toList <;> simp [h1, h2]
theorem ent_neq {a b c d : ByteArray} (h : (a, b) ≠ (c, d)) (w : World) : (Op.equalIn 10000 26 (.agg #[.string a, .string b]) (.agg #[.string c, .string d])).run Try.prog w = .ok false w := by
  rw [eqEnt]
  have : (decide (a = c) && decide (b = d)) = false := by
    by_cases h1 : a = c
    · by_cases h2 : b = d
      · exact absurd (by rw [h1, h2]) h
      · simp [h2]
    · simp [h1]
  rw [this]
theorem ent_eq (a b : ByteArray) (w : World) : (Op.equalIn 10000 26 (.agg #[.string a, .string b]) (.agg #[.string a, .string b])).run Try.prog w = .ok true w := by
  rw [eqEnt]; simp
theorem list_eq_of {E F : List Ent} (hl : E.length = F.length) (h : ∀ j (h1 : j < E.length) (h2 : j < F.length), E[j] = F[j]) : E = F := List.ext_getElem hl h
set_option maxHeartbeats 1000000 in
theorem equal_any (v1 v2 : Value) (E F : List Ent) (w : World) (hv : Ents w v1 E) (hu : Ents w v2 F) (hl : E.length ≤ 1000000) (hl2 : F.length ≤ 1000000) :
    Calls Try.prog 33 #[v1, v2] w fun e w' => e = .returned (.bool (decide (E = F))) ∧ Below w.heap.size w w' := by
  by_cases hlen : E.length = F.length
  · rcases hv with ⟨rfl, q, cap, rfl, _⟩ | ⟨h0, g, off, cap, rfl, hc1, hc2, hent⟩
    · obtain rfl : F = [] := List.eq_nil_of_length_eq_zero hlen.symm
      obtain ⟨q2, cap2, rfl⟩ := hu.len
      clear hu
      go_enter Try.func33, Try.ntmps33
      go_wp2_with fail
      go_loopw [13] (fun i wr => i = .int .i64 0 ∧ Below w.heap.size w wr) (fun _ _ => 0)
      case atStart => exact ⟨rfl, Below.refl _ _⟩
      case round =>
        obtain ⟨rfl, hb⟩ := hrel
        go_wp2_with fail
        go_ret
        exact ⟨by simp, hb⟩
    · rcases hu with ⟨rfl, _⟩ | ⟨h0', g2, off2, cap2, rfl, hd1, hd2, hent2⟩
      · have h00 : ([] : List Ent).length = 0 := rfl
        omega
      rw [← hlen]
      have Hlen := Lib.hid hlen
      have Hent := Lib.hid hent
      have Hent2 := Lib.hid hent2
      clear hent hent2 hlen hd1 h0' hl2
      go_enter Try.func33, Try.ntmps33
      go_wp2_with fail
      go_loopw [13] (fun i wr => ∃ k : Nat, k ≤ E.length ∧ i = .int .i64 (k : Int) ∧ Hid (∀ j (h1 : j < E.length) (h2 : j < F.length), j < k → E[j] = F[j]) ∧ Below w.heap.size w wr) (fun i _ => E.length - (intOf i).toNat)
      case atStart => exact ⟨0, by omega, rfl, fun j _ _ h => absurd h (Nat.not_lt_zero _), Below.refl _ _⟩
      case round =>
        obtain ⟨k, hk, rfl, hinv, hb⟩ := hrel
        by_cases hlt : k < E.length
        · have hlt2 : k < F.length := by rw [← Hlen.out]; exact hlt
          have hc := (Hent.out.on hb) k hlt
          have hd := (Hent2.out.on hb) k hlt2
          have hk1 : (k : Int) < (E.length : Int) := by omega
          by_cases he : E[k] = F[k]
          · have hinv' : Hid (∀ j (h1 : j < E.length) (h2 : j < F.length), j < k + 1 → E[j] = F[j]) := fun j h1 h2 h3 => by
              by_cases h4 : j < k
              · exact hinv.out j h1 h2 h4
              · obtain rfl : j = k := by omega
                exact he
            rw [← he] at hd
            have hE := ent_eq E[k].1 E[k].2
            clear he
            generalize E[k].1 = a1 at *
            generalize E[k].2 = a2 at *
            go_wp2_with fail
            go_quiet (fail)
            go_wp2_with fail
            go_roundw
            case rel => exact ⟨k + 1, by omega, by go_num, hinv', below_drewN hb _⟩
            case measure => simp [intOf]; omega
          · have hE := ent_neq (a := E[k].1) (b := E[k].2) (c := F[k].1) (d := F[k].2) he
            have hne : decide (E = F) = false := by
              rw [decide_eq_false_iff_not]
              rintro rfl
              exact he rfl
            have Hne := Lib.hid hne
            clear he hne
            generalize E[k].1 = a1 at *
            generalize E[k].2 = a2 at *
            generalize F[k].1 = b1 at *
            generalize F[k].2 = b2 at *
            go_wp2_with fail
            go_quiet (fail)
            go_wp2_with fail
            go_ret
            exact ⟨by rw [Hne.out]; rfl, below_drewN hb _⟩
        · obtain rfl : k = E.length := by omega
          have he : E = F := list_eq_of Hlen.out (fun j h1 h2 => hinv.out j h1 h2 h1)
          have He : Hid (decide (E = F) = true) := decide_eq_true he
          clear he
          go_wp2_with fail
          go_ret
          exact ⟨by rw [He.out]; rfl, hb⟩
  · have hne : decide (E = F) = false := by
      rw [decide_eq_false_iff_not]
      rintro rfl
      exact hlen rfl
    rw [hne]
    obtain ⟨q, cap, rfl⟩ := hv.len
    obtain ⟨q2, cap2, rfl⟩ := hu.len
    have h1 : ((E.length : Int) != (F.length : Int)) = true := by simp; omega
    clear hne hv hu hlen
    go_enter Try.func33, Try.ntmps33
    go_wp2_with fail
    go_ret
    exact ⟨rfl, Below.refl _ _⟩
set_option maxHeartbeats 400000 in
theorem same_any (v1 v2 : Value) (E F : List Ent) (w : World) (hv : Ents w v1 E) (hu : Ents w v2 F) (hl : E.length ≤ 1000000) (hl2 : F.length ≤ 1000000) :
    Calls Try.prog 16 #[.agg #[v1], .agg #[v2]] w fun e w' => e = .returned (.bool (decide (E = F))) ∧ Below w.heap.size w w' := by
  have hc := fun w hv hu => equal_any v1 v2 E F w hv hu hl hl2
  have Hc := Lib.hid hc
  have Hv := Lib.hid hv
  have Hu := Lib.hid hu
  clear hc hv hu
  go_enter Try.func16, Try.ntmps16
  go_wp2_with fail
  refine (Hc.out _ (Hv.out.on (BW_alloc (BW_alloc (BW_refl w) _) _)) (Hu.out.on (BW_alloc (BW_alloc (BW_refl w) _) _))).mono ?_
  rintro e w1 ⟨rfl, hb1⟩
  go_wp2_with fail
  go_ret
  exact ⟨rfl, BW_on (BW_alloc (BW_alloc (BW_refl w) _) _) hb1⟩
set_option maxHeartbeats 1000000 in
theorem drop_no (v : Value) (E : List Ent) (k : ByteArray) (w : World) (hv : Ents w v E) (hs : Srt E) (hl : E.length ≤ 2000) (hh : hasK E k = false) :
    Calls Try.prog 18 #[.agg #[v], .string k] w fun e w' => e = .returned (.tuple #[.agg #[v], .bool false]) ∧ Below w.heap.size w w' := by
  have hfind := fun w hv => find_any v E k w hv hs (by omega)
  rw [hh] at hfind
  obtain ⟨q, cap, rfl⟩ := hv.len
  have Hv := Lib.hid hv
  have Hfind := Lib.hid hfind
  clear hfind hh hs hv
  go_enter Try.func18, Try.ntmps18
  go_wp2_with fail
  refine (Hfind.out _ (Hv.out.on (BW_alloc (BW_alloc (BW_refl w) _) _))).mono ?_
  rintro e w1 ⟨rfl, hb1⟩
  have kb := ((blk1 w 28 #[.slice q E.length cap]).alloc (.cells #[.slice none 0 0] 28)).on hb1
  have kr := (blk2 w (.cells #[.slice q E.length cap] 28) 28 #[.slice none 0 0]).on hb1
  have hB1 := BW_on (BW_alloc (BW_alloc (BW_refl w) (.cells #[.slice q E.length cap] 28)) (.cells #[.slice none 0 0] 28)) hb1
  have cb := fun i => kb.cell i
  have cr := fun i => kr.cell i
  have fr := fun i => kr.free i
  go_wp2_with fail
  have hcc := fun i => (kr.set_ 0 (.slice q E.length cap)).cell i
  refine bodyPost_ret (v := .tuple #[.agg #[.slice q E.length cap], .bool false]) (by simp [results, Try.results18, go_sem, hcc]) rfl ⟨rfl, BW_off (by simp) _ hB1⟩
set_option maxHeartbeats 1000000 in
theorem drop_yes (v : Value) (E : List Ent) (k : ByteArray) (w : World) (hv : Ents w v E) (hs : Srt E) (hl : E.length ≤ 2000) (hh : hasK E k = true) :
    Calls Try.prog 18 #[.agg #[v], .string k] w fun e w' => ∃ v', e = .returned (.tuple #[.agg #[v'], .bool true]) ∧ Ents w' v' (dropL E k) ∧ Below w.heap.size w w' := by
  obtain ⟨hp, _⟩ := (has_iff hs k).1 hh
  have hdl : dropL E k = E.take (pos E k) ++ E.drop (pos E k + 1) := by unfold dropL hitN; rw [hh]; rfl
  have hdn : (dropL E k).length + 1 = E.length := by
    have := drop_len hs k
    unfold hitN at this
    rw [hh] at this
    exact this
  obtain ⟨m, hm⟩ : ∃ m, E.length = m + 1 := ⟨E.length - 1, by omega⟩
  have hdm : (dropL E k).length = m := by omega
  have hfind := fun w hv => find_any v E k w hv hs (by omega)
  rw [hh] at hfind
  have hclone := fun w hv => clone_any v E w hv (by omega)
  have hdel := fun base g cap w hown => delete_one base g m cap (pos E k) E w hm (by omega) (by omega) hown
  rw [← hdl] at hdel
  rw [hm] at hclone
  obtain ⟨q0, cap0, rfl⟩ := hv.len
  have Hv := Lib.hid hv
  have Hfind := Lib.hid hfind
  have Hclone := Lib.hid hclone
  have Hdel := Lib.hid hdel
  have Hdm := Lib.hid hdm
  have hpm : (pos E k : Int) ≤ (m : Int) := by omega
  clear hfind hclone hdel hs hv hdl hdn hdm hm
  generalize dropL E k = R at *
  go_enter Try.func18, Try.ntmps18
  go_wp2_with fail
  refine (Hfind.out _ (Hv.out.on (BW_alloc (BW_alloc (BW_refl w) _) _))).mono ?_
  rintro e w1 ⟨rfl, hb1⟩
  have kb := ((blk1 w 28 #[.slice q0 E.length cap0]).alloc (.cells #[.slice none 0 0] 28)).on hb1
  have kr := (blk2 w (.cells #[.slice q0 E.length cap0] 28) 28 #[.slice none 0 0]).on hb1
  have hB1 := BW_on (BW_alloc (BW_alloc (BW_refl w) (.cells #[.slice q0 E.length cap0] 28)) (.cells #[.slice none 0 0] 28)) hb1
  have cb := fun i => kb.cell i
  go_wp2_with fail
  refine (Hclone.out _ (Hv.out.on hB1)).mono ?_
  rintro e w2 ⟨v2, rfl, hown, hb2⟩
  clear cb
  have hkrl := kr.lt
  replace kr := kr.on hb2
  have hB2 := BW_on hB1 hb2
  have hw1 := hB1.size
  obtain ⟨g, cap, cur, rfl, _⟩ := own_row hown (by omega)
  go_wp2_with fail
  refine (Hdel.out w1.heap.size g cap _ hown).mono ?_
  rintro e w3 ⟨rfl, hown3, hb3⟩
  have kr3 := kr.below hb3 hkrl
  have hB3 : Below w.heap.size w w3 := hB2.trans (hb3.mono hw1)
  have fr := fun i => kr3.free i
  have cr := fun i => kr3.cell i
  have hents3 := ownsRow_setCell_below hown3 (show (⟨w.heap.size + 1, 0, none⟩ : Addr).block < w1.heap.size from hkrl) (.slice (some ⟨g, 0, none⟩) m cap)
  rw [← Hdm.out] at hents3
  have hents4 := own_ents hents3
  rw [Hdm.out] at hents4
  have Hents := Lib.hid hents4
  clear hown hown3 hents3 hents4
  go_wp2_with fail
  have hcc := fun i => (kr3.set_ 0 (.slice (some ⟨g, 0, none⟩) m cap)).cell i
  refine bodyPost_ret (v := .tuple #[.agg #[.slice (some ⟨g, 0, none⟩) m cap], .bool true]) (by simp [results, Try.results18, go_sem, hcc]) rfl ⟨_, rfl, Hents.out, BW_off (by simp) _ hB3⟩
set_option maxHeartbeats 1000000 in
theorem range_any (v : Value) (E : List Ent) (a b : ByteArray) (w : World) (hv : Ents w v E) (hs : Srt E) (hl : E.length ≤ 2000) :
    Calls Try.prog 22 #[.agg #[v], .string a, .string b] w fun e w' => ∃ v', e = .returned v' ∧ w'.ownsRow w.heap.size 26 2 v' ((E.take (pos E b)).drop (pos E a)).length (entV ((E.take (pos E b)).drop (pos E a))) ∧ Below w.heap.size w w' := by
  have hfa := fun w hv => find_any v E a w hv hs (by omega)
  have hfb := fun w hv => find_any v E b w hv hs (by omega)
  have hpa := pos_le E a
  have hpb := pos_le E b
  have Hv := Lib.hid hv
  have Hfa := Lib.hid hfa
  have Hfb := Lib.hid hfb
  clear hfa hfb hs hv
  rcases Nat.lt_or_ge (pos E a) (pos E b) with hab | hab
  · rcases Hv.out with ⟨rfl, _⟩ | ⟨h0, g, off, cap, rfl, hc1, hc2, hent⟩
    · have h00 : ([] : List Ent).length = 0 := rfl
      omega
    have hln : ((E.take (pos E b)).drop (pos E a)).length = pos E b - pos E a := by rw [List.length_drop, List.length_take]; omega
    have hce : EntC w g (off + pos E a * 2) ((E.take (pos E b)).drop (pos E a)) := fun i hi => by
      have hi' : pos E a + i < E.length := by omega
      have := hent (pos E a + i) hi'
      rw [show off + (pos E a + i) * 2 = off + pos E a * 2 + i * 2 by omega] at this
      simpa using this
    have hcl := fun w' (hb : Below w.heap.size w w') => clone_any (.slice (some ⟨g, off + pos E a * 2, none⟩) ((E.take (pos E b)).drop (pos E a)).length (pos E b - pos E a)) ((E.take (pos E b)).drop (pos E a)) w' (.inr ⟨by omega, g, off + pos E a * 2, pos E b - pos E a, rfl, by omega, by omega, hce.on hb⟩) (by omega)
    rw [hln] at hcl ⊢
    have Hcl := Lib.hid hcl
    have hab1 : (pos E a : Int) < (pos E b : Int) := by omega
    have hpb1 : (pos E b : Int) ≤ (E.length : Int) := by omega
    have hmx : max (pos E a : Int) (pos E b : Int) = (pos E b : Int) := by omega
    clear hce hent hcl hln
    generalize entV ((E.take (pos E b)).drop (pos E a)) = R at *
    go_enter Try.func22, Try.ntmps22
    go_wp2_with fail
    refine (Hfa.out _ (Hv.out.on (BW_alloc (BW_refl w) _))).mono ?_
    rintro e w1 ⟨rfl, hb1⟩
    have kb := (blk1 w 28 #[.slice (some ⟨g, off, none⟩) E.length cap]).on hb1
    have hB1 := BW_on (BW_alloc (BW_refl w) (.cells #[.slice (some ⟨g, off, none⟩) E.length cap] 28)) hb1
    have cb := fun i => kb.cell i
    go_wp2_with fail
    refine (Hfb.out _ (Hv.out.on hB1)).mono ?_
    rintro e w2 ⟨rfl, hb2⟩
    clear cb
    replace kb := kb.on hb2
    have hB2 := BW_on hB1 hb2
    have cb := fun i => kb.cell i
    go_wp2_with fail
    refine (Hcl.out _ hB2).mono ?_
    rintro e w3 ⟨v3, rfl, hown, hb3⟩
    have hown' := own_mono hown hB2.size
    have hB3 := BW_on hB2 hb3
    clear hown cb
    go_wp2_with fail
    go_ret
    exact ⟨_, rfl, hown', hB3⟩
  · have hnil : (E.take (pos E b)).drop (pos E a) = [] := List.drop_eq_nil_of_le (by rw [List.length_take]; omega)
    rw [hnil]
    have hcl := fun q w' => clone_any (.slice q 0 0) [] w' (.inl ⟨rfl, q, 0, rfl, by decide⟩) (by decide)
    have Hcl := Lib.hid hcl
    obtain ⟨q, cap, rfl⟩ := Hv.out.len
    have hcap : E.length ≤ cap := by
      rcases Hv.out with ⟨rfl, _⟩ | ⟨_, g, off, cap', hh, hc, _⟩
      · exact Nat.zero_le _
      · simp only [Value.slice.injEq] at hh
        omega
    have hcap2 : cap ≤ 9223372036854775807 := by
      rcases Hv.out with ⟨rfl, q', cap', hh, hc⟩ | ⟨_, g, off, cap', hh, _, hc, _⟩
      · simp only [Value.slice.injEq] at hh
        omega
      · simp only [Value.slice.injEq] at hh
        omega
    have hmx : max (pos E a : Int) (pos E b : Int) = (pos E a : Int) := by omega
    have hpa1 : (pos E a : Int) ≤ (E.length : Int) := by omega
    clear hnil hcl
    go_enter Try.func22, Try.ntmps22
    go_wp2_with fail
    refine (Hfa.out _ (Hv.out.on (BW_alloc (BW_refl w) _))).mono ?_
    rintro e w1 ⟨rfl, hb1⟩
    have kb := (blk1 w 28 #[.slice q E.length cap]).on hb1
    have hB1 := BW_on (BW_alloc (BW_refl w) (.cells #[.slice q E.length cap] 28)) hb1
    have cb := fun i => kb.cell i
    go_wp2_with fail
    refine (Hfb.out _ (Hv.out.on hB1)).mono ?_
    rintro e w2 ⟨rfl, hb2⟩
    clear cb
    replace kb := kb.on hb2
    have hB2 := BW_on hB1 hb2
    have cb := fun i => kb.cell i
    go_wp2_with fail
    refine (Hcl.out _ _).mono ?_
    rintro e w3 ⟨v3, rfl, hown, hb3⟩
    have hown' := own_mono hown hB2.size
    have hB3 := BW_on hB2 hb3
    clear hown cb
    go_wp2_with fail
    go_ret
    exact ⟨_, rfl, hown', hB3⟩
end Go.Proofs.Ytkahnobignaccaa

/- Contracts of the document's answer of layer 8: Put. -/
import Derived.Test.YtkahnobignaccaaD10
namespace Go.Proofs.Ytkahnobignaccaa
open Go.RowKit
attribute [local go_sem ↓] Go.wp_at_zero Go.wp_at_succ
/-- What has been put together once i entries have been looked at. -/
def PartR (E : List Ent) (P h : Nat) (k x : ByteArray) (i : Nat) (b : Bool) (F : List Ent) : Prop :=
  (i ≤ P ∧ b = false ∧ F = E.take i) ∨ (P < i ∧ b = true ∧ F = E.take P ++ (k, x) :: (E.take i).drop (P + h))
theorem PartR.s1 {E : List Ent} {P h : Nat} {k x : ByteArray} {i : Nat} {b : Bool} {F : List Ent} (hp : PartR E P h k x i b F) (hi : i < P) (hl : i < E.length) : b = false ∧ PartR E P h k x (i + 1) false (F ++ [E[i]]) := by
  rcases hp with ⟨_, rfl, rfl⟩ | ⟨h1, _⟩
  · exact ⟨rfl, .inl ⟨hi, rfl, by rw [List.take_succ_eq_append_getElem hl]⟩⟩
  · omega
theorem PartR.s2 {E : List Ent} {P h : Nat} {k x : ByteArray} {b : Bool} {F : List Ent} (hp : PartR E P h k x P b F) (h0 : h = 0) (hl : P < E.length) : b = false ∧ PartR E P h k x (P + 1) true (F ++ [(k, x)] ++ [E[P]]) := by
  rcases hp with ⟨_, rfl, rfl⟩ | ⟨h1, _⟩
  · refine ⟨rfl, .inr ⟨by omega, rfl, ?_⟩⟩
    rw [h0, Nat.add_zero, List.take_succ_eq_append_getElem hl, List.drop_append_of_le_length (by rw [List.length_take]; omega), List.drop_eq_nil_of_le (by rw [List.length_take]; omega)]
    simp
  · omega
theorem PartR.s3 {E : List Ent} {P h : Nat} {k x : ByteArray} {b : Bool} {F : List Ent} (hp : PartR E P h k x P b F) (h0 : h = 1) (hl : P < E.length) : b = false ∧ PartR E P h k x (P + 1) true (F ++ [(k, x)]) := by
  rcases hp with ⟨_, rfl, rfl⟩ | ⟨h1, _⟩
  · refine ⟨rfl, .inr ⟨by omega, rfl, ?_⟩⟩
    rw [h0, List.drop_eq_nil_of_le (by rw [List.length_take]; omega)]
  · omega
theorem PartR.s4 {E : List Ent} {P h : Nat} {k x : ByteArray} {i : Nat} {b : Bool} {F : List Ent} (hp : PartR E P h k x i b F) (hi : P < i) (hh : h ≤ 1) (hl : i < E.length) : b = true ∧ PartR E P h k x (i + 1) true (F ++ [E[i]]) := by
  rcases hp with ⟨h1, _⟩ | ⟨_, rfl, rfl⟩
  · omega
  · refine ⟨rfl, .inr ⟨by omega, rfl, ?_⟩⟩
    rw [List.take_succ_eq_append_getElem hl, List.drop_append_of_le_length (by rw [List.length_take]; omega)]
    simp
theorem PartR.len {E : List Ent} {P h : Nat} {k x : ByteArray} {i : Nat} {b : Bool} {F : List Ent} (hp : PartR E P h k x i b F) (hi : i ≤ E.length) : F.length ≤ i + 1 := by
  rcases hp with ⟨_, _, rfl⟩ | ⟨h1, _, rfl⟩
  · rw [List.length_take]; omega
  · rw [List.length_append, List.length_cons, List.length_take, List.length_drop, List.length_take]; omega
theorem PartR.lenP {E : List Ent} {P h : Nat} {k x : ByteArray} {b : Bool} {F : List Ent} (hp : PartR E P h k x P b F) : F.length ≤ P := by
  rcases hp with ⟨_, _, rfl⟩ | ⟨h1, _, rfl⟩
  · rw [List.length_take]; omega
  · omega
theorem PartR.fin {E : List Ent} {h : Nat} {k x : ByteArray} {b : Bool} {F : List Ent} (hp : PartR E (pos E k) h k x E.length b F) (hh : h = hitN E k) (hz : pos E k = E.length → h = 0) :
    (pos E k < E.length ∧ b = true ∧ F = putL E k x) ∨ (b = false ∧ F ++ [(k, x)] = putL E k x) := by
  have hle := pos_le E k
  rcases hp with ⟨h1, rfl, rfl⟩ | ⟨h1, rfl, rfl⟩
  · right
    have e : pos E k = E.length := by omega
    refine ⟨rfl, ?_⟩
    unfold putL
    rw [← hh, hz e, e, List.take_length, List.drop_eq_nil_of_le (by omega)]
  · left
    refine ⟨h1, rfl, ?_⟩
    unfold putL
    rw [← hh, List.take_length]
set_option maxHeartbeats 1000000 in
theorem rput_size (v : Value) (k x : ByteArray) (w : World) (h : 400 < k.size ∨ 4000 < x.size) :
    Calls Try.prog 21 #[v, .string k, .string x] w fun e w' => e = .returned (.tuple #[.slice none 0 0, .int .i64 11]) ∧ Below w.heap.size w w' := by
  have h' : (400 : Int) < (k.size : Int) ∨ (¬ (400 : Int) < (k.size : Int) ∧ (4000 : Int) < (x.size : Int)) := by omega
  have H' := Lib.hid h'
  clear h h'
  rcases H'.out with h1 | ⟨h1, h2⟩
  all_goals
    go_enter Try.func21, Try.ntmps21
    go_wp2_with fail
    go_ret2
    exact ⟨rfl, Below.refl _ _⟩
set_option maxHeartbeats 1000000 in
theorem rput_full (v : Value) (E : List Ent) (k x : ByteArray) (w : World) (hv : Ents w v E) (hl : E.length = 2000) (hk : k.size ≤ 400) (hx : x.size ≤ 4000) (hh : hasK E k = false) :
    Calls Try.prog 21 #[v, .string k, .string x] w fun e w' => e = .returned (.tuple #[.slice none 0 0, .int .i64 15]) ∧ Below w.heap.size w w' := by
  have hget := fun w hv => rget_any v E k w hv (by omega)
  rw [hh] at hget
  obtain ⟨q, cap, hq⟩ := hv.len
  rw [hl] at hq
  subst hq
  have Hv := Lib.hid hv
  have Hget := Lib.hid hget
  clear hget hh hv hl
  have hk1 : ¬ ((400 : Int) < (k.size : Int)) := by omega
  have hx1 : ¬ ((4000 : Int) < (x.size : Int)) := by omega
  go_enter Try.func21, Try.ntmps21
  go_wp2_with fail
  refine (Hget.out _ Hv.out).mono ?_
  rintro e w1 ⟨rfl, rfl⟩
  go_wp2_with fail
  go_ret2
  exact ⟨rfl, Below.refl _ _⟩
set_option maxHeartbeats 2000000 in
set_option maxRecDepth 100000 in
theorem rput_ok (v : Value) (E : List Ent) (k x : ByteArray) (w : World) (hv : Ents w v E) (hs : Srt E) (hl : E.length ≤ 2000) (hok : putOk E k x) :
    Calls Try.prog 21 #[v, .string k, .string x] w fun e w' => ∃ v', e = .returned (.tuple #[v', .int .i64 0]) ∧ Ents w' v' (putL E k x) ∧ Below w.heap.size w w' := by
  obtain ⟨i0, hi0, hz0, hz1, hz2⟩ := info_parts infoE
  have hget := fun w hv => rget_any v E k w hv (by omega)
  obtain ⟨p0, cap, rfl, _, _, hf⟩ := hv.form
  have hple := pos_le E k
  have hh1 : hitN E k ≤ 1 := by unfold hitN; split <;> omega
  have hhz : pos E k = E.length → hitN E k = 0 := by
    intro e
    have := hit_le hs k
    omega
  have hok3 := hok.2.2
  have hk1 : ¬ ((400 : Int) < (k.size : Int)) := by have := hok.1; omega
  have hx1 : ¬ ((4000 : Int) < (x.size : Int)) := by have := hok.2.1; omega
  have hfull : hasK E k = true ∨ (hasK E k = false ∧ ¬ (2000 : Int) ≤ (E.length : Int)) := by
    rcases hok3 with h | h
    · exact .inl h
    · cases hh : hasK E k
      · exact .inr ⟨rfl, by omega⟩
      · exact .inl rfl
  have Hfull := Lib.hid hfull
  have Hf := Lib.hid hf
  have Hs := Lib.hid hs
  have Hv := Lib.hid hv
  have Hget := Lib.hid hget
  have Hhz := Lib.hid hhz
  clear hf hv hs hget hok3 hok hfull hhz
  have hstart : ∃ bb : Bool, bb = hasK E k := ⟨_, rfl⟩
  rcases Hfull.out with hh | ⟨hh, hl2⟩
  all_goals
    rw [hh] at Hget
    clear hh
    go_enter Try.func21, Try.ntmps21
    go_wp2_with fail
    refine (Hget.out _ Hv.out).mono ?_
    rintro e w1 ⟨rfl, rfl⟩
    go_wp2_with fail
    go_loopw [10, 11, 12] (fun o b i wr => ∃ (j m : Nat) (c : Bool) (F : List Ent), j ≤ E.length ∧ i = .int .i64 (j : Int) ∧ b = .bool c ∧ Hid (PartR E (pos E k) (hitN E k) k x j c F ∧ m = F.length) ∧ m ≤ j + 1 ∧ wr.ownsRow w.heap.size 26 2 o m (entV F) ∧ Below w.heap.size w wr) (fun _ _ i _ => E.length - (intOf i).toNat)
    case atStart => exact ⟨0, 0, false, [], by omega, rfl, rfl, ⟨.inl ⟨by omega, rfl, rfl⟩, rfl⟩, by omega, World.ownsRow_nil _ _ _ _, Below.refl _ _⟩
    case round =>
      obtain ⟨j, m, c, F, hj, rfl, rfl, hpart, hm, hown, hb⟩ := hrel
      by_cases hlt : j < E.length
      · obtain ⟨g, off, rfl, hent⟩ := Hf.out (by omega)
        have hc := (hent.on hb) j hlt
        have HcW : Hid (∀ W, Below w.heap.size w W → W.cell? ⟨g, off + j * 2, none⟩ = some (.string E[j].1) ∧ W.cell? ⟨g, off + j * 2 + 1, none⟩ = some (.string E[j].2)) := fun W hW => (hent.on hW) j hlt
        have hk1' : (j : Int) < (E.length : Int) := by omega
        have hbl := bless_klt E[j].1 k
        have hbe := beq_kl E[j].1 k
        have hsz := hb.size
        have hev : ∀ (G : List Ent) (y : Ent), entV (G ++ [y]) = entV G ++ [.string y.1, .string y.2] := fun G y => by rw [entV_app]; rfl
        have Hev := Lib.hid hev
        clear hent Hf hev
        rcases Nat.lt_trichotomy j (pos E k) with h1 | h1 | h1
        · obtain ⟨rfl, hp2⟩ := hpart.out.1.s1 h1 hlt
          rw [decide_eq_true (pos_lt h1 hlt)] at hbl
          rw [decide_eq_false (pos_ne h1 hlt)] at hbe
          have hpart2 := Lib.hid (And.intro hp2 (show m + 1 = (F ++ [E[j]]).length by rw [List.length_append, ← hpart.out.2]; rfl))
          have hvv := Hev.out F E[j]
          have Hvv := Lib.hid hvv
          clear hp2 hvv
          generalize E[j].1 = a1 at *
          generalize E[j].2 = a2 at *
          go_wp2_with (at_builtin; go_must (refine wpList_push_at rfl _ _ 23 rfl w.heap.size 26 i0 (.agg #[.string ⟨#[]⟩, .string ⟨#[]⟩]) 2 32 Try.underlying23 hi0 hz0 hz1 hz2 rfl (by decide) _ _ _ rfl hown [.string a1, .string a2] _ rfl rfl rfl rfl (by unfold maxLen; omega) (by omega) (by omega) ?_); intro v1 w3 hown3 hb3 hz3)
          rw [← Hvv.out] at hown3
          go_roundw
          case rel => exact ⟨j + 1, m + 1, false, _, by omega, by go_num, rfl, hpart2, by omega, hown3, hb.trans hb3⟩
          case measure => simp [intOf]; omega
        · subst h1
          have hm' : m ≤ pos E k := by have := hpart.out.1.lenP; have := hpart.out.2; omega
          rw [decide_eq_false (pos_ge Hs.out (Nat.le_refl _) hlt)] at hbl
          have hvv1 := Hev.out F (k, x)
          have Hvv1 := Lib.hid hvv1
          clear hvv1
          by_cases he : E[pos E k].1 = k
          · have hh1' : hitN E k = 1 := by
              have := (has_iff Hs.out k).2 ⟨hlt, he⟩
              unfold hitN
              rw [this]; rfl
            obtain ⟨rfl, hp2⟩ := hpart.out.1.s3 hh1' hlt
            rw [decide_eq_true he] at hbe
            have hpart2 := Lib.hid (And.intro hp2 (show m + 1 = (F ++ [(k, x)]).length by rw [List.length_append, ← hpart.out.2]; rfl))
            clear hp2 hh1' he
            generalize E[pos E k].1 = a1 at *
            generalize E[pos E k].2 = a2 at *
            go_wp2_with (at_builtin; (with_reducible refine wpList_push_at rfl _ _ 23 rfl w.heap.size 26 i0 (.agg #[.string ⟨#[]⟩, .string ⟨#[]⟩]) 2 32 Try.underlying23 hi0 hz0 hz1 hz2 rfl (by decide) _ _ _ rfl hown [.string k, .string x] _ rfl rfl rfl rfl (by unfold maxLen; omega) (by omega) (by omega) ?_); intro v1 w3 hown3 hb3 hz3; have hc3 := HcW.out _ (hb.trans hb3))
            rw [← Hvv1.out] at hown3
            go_roundw
            case rel => exact ⟨pos E k + 1, m + 1, true, _, by omega, by go_num, rfl, hpart2, by omega, hown3, hb.trans hb3⟩
            case measure => simp [intOf]; omega
          · have hh0 : hitN E k = 0 := by
              unfold hitN
              cases h : hasK E k
              · rfl
              · obtain ⟨_, h2⟩ := (has_iff Hs.out k).1 h
                exact absurd h2 he
            obtain ⟨rfl, hp2⟩ := hpart.out.1.s2 hh0 hlt
            rw [decide_eq_false he] at hbe
            have hpart2 := Lib.hid (And.intro hp2 (show m + 1 + 1 = (F ++ [(k, x)] ++ [E[pos E k]]).length by rw [List.length_append, List.length_append, ← hpart.out.2]; rfl))
            have hvv2 := Hev.out (F ++ [(k, x)]) E[pos E k]
            have Hvv2 := Lib.hid hvv2
            clear hp2 hh0 he hvv2
            generalize E[pos E k].1 = a1 at *
            generalize E[pos E k].2 = a2 at *
            go_wp2_with (first | (at_builtin; (with_reducible refine wpList_push_at rfl _ _ 23 rfl w.heap.size 26 i0 (.agg #[.string ⟨#[]⟩, .string ⟨#[]⟩]) 2 32 Try.underlying23 hi0 hz0 hz1 hz2 rfl (by decide) _ _ _ rfl hown [.string k, .string x] _ rfl rfl rfl rfl (by unfold maxLen; omega) (by omega) (by omega) ?_); intro v1 w3 hown3 hb3 hz3; have hc3 := HcW.out _ (hb.trans hb3); have hsz3 := Nat.le_trans hsz (Nat.le_of_lt hz3)) | (at_builtin; (with_reducible refine wpList_push_at rfl _ _ 23 rfl w.heap.size 26 i0 (.agg #[.string ⟨#[]⟩, .string ⟨#[]⟩]) 2 32 Try.underlying23 hi0 hz0 hz1 hz2 rfl (by decide) _ _ _ rfl hown3 [.string a1, .string a2] _ rfl rfl rfl rfl (by unfold maxLen; omega) (by omega) (by omega) ?_); intro v2 w4 hown4 hb4 hz4))
            rw [← Hvv1.out, ← Hvv2.out] at hown4
            go_roundw
            case rel => exact ⟨pos E k + 1, m + 1 + 1, true, _, by omega, by go_num, rfl, hpart2, by omega, hown4, (hb.trans hb3).trans hb4⟩
            case measure => simp [intOf]; omega
        · obtain ⟨rfl, hp2⟩ := hpart.out.1.s4 h1 hh1 hlt
          rw [decide_eq_false (pos_ne' Hs.out h1 hlt)] at hbe
          have hpart2 := Lib.hid (And.intro hp2 (show m + 1 = (F ++ [E[j]]).length by rw [List.length_append, ← hpart.out.2]; rfl))
          have hvv := Hev.out F E[j]
          have Hvv := Lib.hid hvv
          clear hp2 hvv
          generalize E[j].1 = a1 at *
          generalize E[j].2 = a2 at *
          go_wp2_with (at_builtin; (with_reducible refine wpList_push_at rfl _ _ 23 rfl w.heap.size 26 i0 (.agg #[.string ⟨#[]⟩, .string ⟨#[]⟩]) 2 32 Try.underlying23 hi0 hz0 hz1 hz2 rfl (by decide) _ _ _ rfl hown [.string a1, .string a2] _ rfl rfl rfl rfl (by unfold maxLen; omega) (by omega) (by omega) ?_); intro v2 w4 hown4 hb4 hz4)
          rw [← Hvv.out] at hown4
          go_roundw
          case rel => exact ⟨j + 1, m + 1, true, _, by omega, by go_num, rfl, hpart2, by omega, hown4, hb.trans hb4⟩
          case measure => simp [intOf]; omega
      · obtain rfl : j = E.length := by omega
        have hfin := hpart.out.1.fin rfl Hhz.out
        have Hm := Lib.hid hpart.out.2
        have hsz := hb.size
        have Hfin := Lib.hid hfin
        clear hfin hpart hlt
        rcases Hfin.out with ⟨_, rfl, hF⟩ | ⟨rfl, hF⟩
        · subst hF
          rw [Hm.out] at hown
          have hents := own_ents hown
          go_wp2_with fail
          go_ret2
          exact ⟨_, rfl, hents, hb⟩
        · have hvv : entV (F ++ [(k, x)]) = entV F ++ [.string k, .string x] := by rw [entV_app]; rfl
          have Hvv := Lib.hid hvv
          have HF := Lib.hid hF
          have hm2 : m + 1 = (F ++ [(k, x)]).length := by rw [List.length_append, ← Hm.out]; rfl
          have Hm2 := Lib.hid hm2
          clear hvv hF hm2
          go_wp2_with (at_builtin; (with_reducible refine wpList_push_at rfl _ _ 23 rfl w.heap.size 26 i0 (.agg #[.string ⟨#[]⟩, .string ⟨#[]⟩]) 2 32 Try.underlying23 hi0 hz0 hz1 hz2 rfl (by decide) _ _ _ rfl hown [.string k, .string x] _ rfl rfl rfl rfl (by unfold maxLen; omega) (by omega) (by omega) ?_); intro v1 w3 hown3 hb3 hz3)
          rw [← Hvv.out, Hm2.out] at hown3
          have hents := own_ents hown3
          rw [HF.out] at hents
          go_wp2_with fail
          go_ret2
          exact ⟨_, rfl, hents, hb.trans hb3⟩
end Go.Proofs.Ytkahnobignaccaa

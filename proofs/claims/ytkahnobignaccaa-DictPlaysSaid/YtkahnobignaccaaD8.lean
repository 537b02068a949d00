/- Contract of layer 8 (dict): Under. -/
import Derived.Test.YtkahnobignaccaaD7
namespace Go.Proofs.Ytkahnobignaccaa
open Go.RowKit
attribute [local go_sem ↓] Go.wp_at_zero Go.wp_at_succ
def hp (s p : ByteArray) : Bool := Lib.hasPrefix s.data.toList p.data.toList
def underL (E : List Ent) (p : ByteArray) : List Ent := (E.drop (pos E p)).takeWhile fun x => hp x.1 p
theorem takeWhile_take {α : Type} (f : α → Bool) (F : List α) (t : Nat) (h : ∀ j (hj : j < F.length), j < t → f F[j] = true) (ht : t ≤ F.length) (he : t = F.length ∨ ∃ h : t < F.length, f F[t] = false) : F.takeWhile f = F.take t := by
  induction F generalizing t with
  | nil => simp
  | cons x F ih =>
    cases t with
    | zero =>
      rcases he with he | ⟨h1, h2⟩
      · simp at he
      · rw [List.takeWhile_cons]
        simp at h2
        simp [h2]
    | succ t =>
      have h00 : f x = true := h 0 (by simp) (by omega)
      rw [List.takeWhile_cons, if_pos h00, List.take_succ_cons]
      congr 1
      refine ih t (fun j hj hjt => h (j + 1) (by simpa using hj) (by omega)) (by simpa using ht) ?_
      rcases he with he | ⟨h1, h2⟩
      · left; simpa using he
      · exact .inr ⟨by simpa using h1, by simpa using h2⟩
set_option maxHeartbeats 2000000 in
theorem under_any (v : Value) (E : List Ent) (p : ByteArray) (w : World) (hv : Ents w v E) (hs : Srt E) (hl : E.length ≤ 2000) :
    Calls Try.prog 25 #[.agg #[v], .string p] w fun e w' => ∃ v', e = .returned v' ∧ w'.ownsRow w.heap.size 26 2 v' (underL E p).length (entV (underL E p)) ∧ Below w.heap.size w w' := by
  obtain ⟨i0, hi0, hz0, hz1, hz2⟩ := info_parts infoE
  have hfind := fun w hv => find_any v E p w hv hs (by omega)
  have Hfind := Lib.hid hfind
  have Hv := Lib.hid hv
  have hple := pos_le E p
  clear hfind hs hv
  have hFl : (E.drop (pos E p)).length = E.length - pos E p := List.length_drop
  rcases Nat.lt_or_ge (pos E p) E.length with hlt | hge
  · rcases Hv.out with ⟨rfl, _⟩ | ⟨h0, g, off, cap, rfl, hc1, hc2, hent⟩
    · have h00 : ([] : List Ent).length = 0 := rfl
      omega
    have hce : EntC w g (off + pos E p * 2) (E.drop (pos E p)) := fun i hi => by
      have hi' : pos E p + i < E.length := by omega
      have := hent (pos E p + i) hi'
      rw [show off + (pos E p + i) * 2 = off + pos E p * 2 + i * 2 by omega] at this
      simpa using this
    have Hce := Lib.hid hce
    have hU : underL E p = (E.drop (pos E p)).takeWhile fun x => hp x.1 p := rfl
    rw [hU]
    have hlt1 : (pos E p : Int) ≤ (E.length : Int) := by omega
    have hlt2 : pos E p ≤ E.length := by omega
    have hcp : ¬ cap = pos E p := by omega
    have HFl := Lib.hid hFl
    clear hce hent hU hFl
    generalize E.drop (pos E p) = F at *
    go_enter Try.func25, Try.ntmps25
    go_wp2_with fail
    go_step3
    go_wp2_with fail
    refine (Hfind.out _ (Hv.out.on (BW_alloc (BW_refl w) _))).mono ?_
    rintro e w1 ⟨rfl, hb1⟩
    have kb := (blk1 w 28 #[.slice (some ⟨g, off, none⟩) E.length cap]).on hb1
    have hB1 := BW_on (BW_alloc (BW_refl w) (.cells #[.slice (some ⟨g, off, none⟩) E.length cap] 28)) hb1
    have cb := fun i => kb.cell i
    have hw1 := hB1.size
    go_wp2_with fail
    go_step3
    go_wp2_with fail
    clear cb
    go_loopw [7, 21] (fun o i wr => ∃ t : Nat, t ≤ F.length ∧ i = .int .i64 (t : Int) ∧ Hid (∀ j (hj : j < F.length), j < t → hp F[j].1 p = true) ∧ wr.ownsRow w1.heap.size 26 2 o t (entV (F.take t)) ∧ Below w1.heap.size w1 wr) (fun _ i _ => F.length - (intOf i).toNat)
    case atStart => exact ⟨0, by omega, rfl, fun j _ h => absurd h (Nat.not_lt_zero _), World.ownsRow_nil _ _ _ _, Below.refl _ _⟩
    case round =>
      obtain ⟨t, ht, rfl, hinv, hown, hB⟩ := hrel
      by_cases hlt : t < F.length
      · have hc := (Hce.out.on (hB1.trans (hB.mono hw1))) t hlt
        have ht1 : (t : Int) < ((E.length - pos E p : Nat) : Int) := by have := HFl.out; omega
        have hcall := fun w => Try.strings_HasPrefix F[t].1 p w
        have hpd : ∀ s : ByteArray, Lib.hasPrefix s.data.toList p.data.toList = hp s p := fun _ => rfl
        rw [hpd] at hcall
        have Hcall := Lib.hid hcall
        clear hcall hpd
        cases hh : hp F[t].1 p with
        | true =>
          have hinv' : Hid (∀ j (hj : j < F.length), j < t + 1 → hp F[j].1 p = true) := fun j hj hjt => by
            by_cases h : j < t
            · exact hinv.out j hj h
            · obtain rfl : j = t := by omega
              exact hh
          have htk : entV (F.take (t + 1)) = entV (F.take t) ++ [.string F[t].1, .string F[t].2] := by
            rw [List.take_succ_eq_append_getElem hlt, entV_app]; rfl
          have Htk := Lib.hid htk
          rw [hh] at Hcall
          clear hh htk
          have hone := one2 F[t].1 F[t].2
          generalize F[t].1 = a1 at *
          generalize F[t].2 = a2 at *
          go_wp2_with fail
          refine (Hcall.out _).mono ?_
          rintro e w2 ⟨rfl, rfl⟩
          have hown1 := hown.alloc (.cells #[.string a1, .string a2] 26)
          have hsz := hB.size
          clear hc hown
          go_wp2_with (at_builtin; go_must (refine wpList_push_at rfl _ _ 23 rfl w1.heap.size 26 i0 (.agg #[.string ⟨#[]⟩, .string ⟨#[]⟩]) 2 32 Try.underlying23 hi0 hz0 hz1 hz2 rfl (by decide) _ _ _ rfl hown1 [.string a1, .string a2] _ rfl (by simp) rfl rfl (by unfold maxLen; omega) (by omega) (by simp; omega) ?_); intro v1 w3 hown3 hb3 hz3)
          rw [← Htk.out] at hown3
          go_roundw
          case rel => exact ⟨t + 1, by omega, by go_num, hinv', hown3, (BW_alloc hB _).trans hb3⟩
          case measure => simp [intOf]; omega
        | false =>
          have hres : (F.takeWhile fun x => hp x.1 p) = F.take t := takeWhile_take _ F t hinv.out ht (.inr ⟨hlt, hh⟩)
          have hlen : (F.take t).length = t := by rw [List.length_take]; omega
          have Hres := Lib.hid hres
          have Hlen := Lib.hid hlen
          rw [hh] at Hcall
          clear hh hres hlen
          generalize F[t].1 = a1 at *
          generalize F[t].2 = a2 at *
          go_wp2_with fail
          refine (Hcall.out _).mono ?_
          rintro e w2 ⟨rfl, rfl⟩
          have hown1 := own_mono (hown.alloc (.cells #[.string a1, .string a2] 26)) hw1
          have hB9 : Below w.heap.size w (wr.alloc (.cells #[.string a1, .string a2] 26)) := hB1.trans ((BW_alloc hB _).mono hw1)
          clear hc hown
          go_wp2_with fail
          try rw [Exit.noGoto_ret]
          go_ret
          exact ⟨_, rfl, by rw [Hres.out, Hlen.out]; exact hown1, hB9⟩
      · obtain rfl : t = F.length := by omega
        have hres : (F.takeWhile fun x => hp x.1 p) = F := by rw [takeWhile_take _ F F.length hinv.out ht (.inl rfl), List.take_length]
        have Hres := Lib.hid hres
        rw [List.take_length] at hown
        have hown1 := own_mono hown hw1
        have ht1 : ¬ (F.length : Int) < ((E.length - pos E p : Nat) : Int) := by have := HFl.out; omega
        clear hres hown hlt
        go_wp2_with fail
        try rw [Exit.noGoto_ret]
        go_ret
        exact ⟨_, rfl, by rw [Hres.out]; exact hown1, hB1.trans (hB.mono hw1)⟩
  · have hnil : underL E p = [] := by
      unfold underL
      rw [List.drop_eq_nil_of_le (by omega)]
      rfl
    rw [hnil]
    obtain ⟨q, cap, rfl⟩ := Hv.out.len
    have hcap : E.length ≤ cap := by
      rcases Hv.out with ⟨rfl, _⟩ | ⟨_, g, off, cap', hh, hc, _⟩
      · exact Nat.zero_le _
      · simp only [Value.slice.injEq] at hh
        omega
    have hpe : pos E p = E.length := by omega
    rw [hpe] at Hfind
    clear hnil hge hpe hFl hple
    go_enter Try.func25, Try.ntmps25
    go_wp2_with fail
    go_step3
    go_wp2_with fail
    refine (Hfind.out _ (Hv.out.on (BW_alloc (BW_refl w) _))).mono ?_
    rintro e w1 ⟨rfl, hb1⟩
    have kb := (blk1 w 28 #[.slice q E.length cap]).on hb1
    have hB1 := BW_on (BW_alloc (BW_refl w) (.cells #[.slice q E.length cap] 28)) hb1
    have cb := fun i => kb.cell i
    have hw1 := hB1.size
    by_cases hce : cap = E.length
    · subst hce
      go_wp2_with fail
      go_step3
      go_wp2_with fail
      clear cb
      go_loopw [7, 21] (fun o i wr => o = .slice none 0 0 ∧ i = .int .i64 0 ∧ wr = w1) (fun _ _ _ => 0)
      case atStart => exact ⟨rfl, rfl, rfl⟩
      case round =>
        obtain ⟨rfl, rfl, rfl⟩ := hrel
        go_wp2_with fail
        try rw [Exit.noGoto_ret]
        go_ret
        exact ⟨_, rfl, World.ownsRow_nil _ _ _ _, hB1⟩
    · rcases q with _ | ⟨qg, qo, qs⟩
      all_goals
        go_wp2_with fail
        go_step3
        go_wp2_with fail
        clear cb
        go_loopw [7, 21] (fun o i wr => o = .slice none 0 0 ∧ i = .int .i64 0 ∧ wr = w1) (fun _ _ _ => 0)
        case atStart => exact ⟨rfl, rfl, rfl⟩
        case round =>
          obtain ⟨rfl, rfl, rfl⟩ := hrel
          go_wp2_with fail
          try rw [Exit.noGoto_ret]
          go_ret
          exact ⟨_, rfl, World.ownsRow_nil _ _ _ _, hB1⟩
end Go.Proofs.Ytkahnobignaccaa

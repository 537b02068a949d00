/- Contract of the document's answer of layer 4: FromText. -/
import Derived.Test.YtibemleodghhfaaFt
namespace Go.Proofs.Ytibemleodghhfaa
open Go.RowKit
attribute [local go_sem ↓] Go.wp_at_zero Go.wp_at_succ
set_option maxHeartbeats 2000000 in
theorem rft_any (s : ByteArray) (V : Nat) (err : Int) (h : FT s.data.toList V err) (hmax : s.size ≤ 9223372036854775807) (w : World) :
    Calls Try.prog 33 #[.string s] w fun e w' => e = .returned (.tuple #[.agg #[.int .u64 (limb V 0), .int .u64 (limb V 1), .int .u64 (limb V 2), .int .u64 (limb V 3)], .int .i64 err]) ∧ Below w.heap.size w w' := by
  have HF := Lib.hid h
  clear h
  go_enter Try.func33, Try.ntmps33
  go_wp2_with fail
  go_loopw [5] (fun t wr => ∃ (i c : Nat), i ≤ s.size ∧ i ≤ 101 ∧ t = .int .i64 (i : Int) ∧ Hid (c = val (s.data.toList.take i) ∧ ∀ x ∈ s.data.toList.take i, dg x) ∧ W256 c ∧ Blk wr w.heap.size 26 #[.int .u64 0, .int .u64 0, .int .u64 0, .int .u64 0] ∧ Blk wr (w.heap.size + 1) 26 (wcells c) ∧ Below w.heap.size w wr) (fun t _ => s.size - (intOf t).toNat)
  case atStart => exact ⟨0, 0, by omega, by omega, rfl, ⟨rfl, by simp⟩, W256.zero, (blk1 w 26 #[.int .u64 0, .int .u64 0, .int .u64 0, .int .u64 0]).alloc _, blk2 w (.cells #[.int .u64 0, .int .u64 0, .int .u64 0, .int .u64 0] 26) 26 #[.int .u64 0, .int .u64 0, .int .u64 0, .int .u64 0], BW_alloc (BW_alloc (Below.refl _ _) _) _⟩
  case round =>
    obtain ⟨i, c, hi, hi1, rfl, hinv, hcW, kz, ka, hB⟩ := hrel
    have fz := fun i => kz.free i
    have cz := fun i => kz.cell i
    by_cases hlt : i < s.size
    · have hlt' : (i : Int) < (s.size : Int) := by omega
      have hil : i < s.data.toList.length := by simpa using hlt
      have htk0 := List.take_succ_eq_append_getElem hil
      have hmem : s.data.toList[i] ∈ s.data.toList := List.getElem_mem hil
      have esi : s.data.toList[i] = s[i] := rfl
      rw [esi] at htk0 hmem
      have htk := Lib.hid htk0
      clear htk0 esi
      have hx8 := UInt8.toNat_lt s[i]
      by_cases hdg : dg s[i] ∧ i ≤ 100
      · obtain ⟨hdg, hi100⟩ := hdg
        have hd1 : ¬ ((s[i].toNat : Int) < 48) := by unfold dg at hdg; omega
        have hd2 : ¬ ((57 : Int) < (s[i].toNat : Int)) := by unfold dg at hdg; omega
        have hd3 : ¬ ((100 : Int) < (i : Int)) := by omega
        obtain ⟨d, hd⟩ : ∃ d : Nat, d = s[i].toNat - 48 := ⟨_, rfl⟩
        have hds : (s[i].toNat : Int) - 48 = (d : Int) := by unfold dg at hdg; omega
        have hd10 : d < 10 := by unfold dg at hdg; omega
        have Hd : Hid (s[i].toNat = d + 48) := by show _ = _; unfold dg at hdg; omega
        have Hdg := Lib.hid hdg
        have Ht := Lib.hid (rtimes_any c 10 hcW (by decide))
        have hXW : W256 (wN (c * 10)) := W256.wN _
        generalize hX : wN (c * 10) = X at Ht hXW
        generalize hXo : wOk (c * 10) = xo at Ht
        have hdW : W256 d := W256.small (by omega)
        have ha := radd_any X d hXW hdW
        rw [(limb_small d (by omega)).1, (limb_small d (by omega)).2.1, (limb_small d (by omega)).2.2.1, (limb_small d (by omega)).2.2.2] at ha
        have Ha := Lib.hid ha
        clear ha
        generalize hY : wN (X + d) = Y at Ha
        generalize hYo : wOk (X + d) = yo at Ha
        have HXX := Lib.hid hX
        have HXo := Lib.hid hXo
        have HY := Lib.hid hY
        have HYo := Lib.hid hYo
        have ca := fun i => ka.cell i
        unfold wcells at ca ka
        clear hd hdg hX hXo hY hYo hXW hdW
        go_wp2_with fail
        refine (Ht.out _).mono ?_
        rintro e w1 ⟨rfl, hb1⟩
        clear ca
        have Kz1 := Lib.hid ((kz.on hb1).alloc (.cells #[.int .u64 (limb X 0), .int .u64 (limb X 1), .int .u64 (limb X 2), .int .u64 (limb X 3)] 26))
        have Ka1 := Lib.hid ((ka.on hb1).alloc (.cells #[.int .u64 (limb X 0), .int .u64 (limb X 1), .int .u64 (limb X 2), .int .u64 (limb X 3)] 26))
        have Kx1 := Lib.hid (Blk.new w1 26 #[.int .u64 (limb X 0), .int .u64 (limb X 1), .int .u64 (limb X 2), .int .u64 (limb X 3)])
        have HB1 := Lib.hid (BW_alloc (BW_on hB hb1) (.cells #[.int .u64 (limb X 0), .int .u64 (limb X 1), .int .u64 (limb X 2), .int .u64 (limb X 3)] 26))
        clear hb1 fz cz kz ka hB
        go_wp2_with fail
        generalize w1.alloc (.cells #[.int .u64 (limb X 0), .int .u64 (limb X 1), .int .u64 (limb X 2), .int .u64 (limb X 3)] 26) = W at *
        generalize w1.heap.size = gx at *
        have hw1 : IntKind.u8.wrap (d : Int) = (d : Int) := by rw [IntKind.wrap_u8]; omega
        have hw2 : IntKind.u64.wrap (d : Int) = (d : Int) := by rw [IntKind.wrap_u64]; omega
        have hw3 : IntKind.u8.wrap ((s[i].toNat : Int) - 48) = (d : Int) := by rw [hds, hw1]
        go_region_held3 (fun w' => w'.cell? ⟨gx, 0, none⟩ = some (.int .u64 (limb X 0)) ∧ w'.cell? ⟨gx, 1, none⟩ = some (.int .u64 (limb X 1)) ∧ w'.cell? ⟨gx, 2, none⟩ = some (.int .u64 (limb X 2)) ∧ w'.cell? ⟨gx, 3, none⟩ = some (.int .u64 (limb X 3)))
          ((refine blkS (t := 26) ?_; repeat (first | (with_reducible exact Kx1.out) | (with_reducible refine Blk.alloc ?_ _) | (with_reducible refine Blk.drew ?_) | (with_reducible refine Blk.on ?_ (by assumption)) | ((with_reducible refine Blk.off ?_ _ ?_); (have hl := Kx1.out.lt; simp at hl ⊢; omega)))))
          ((go_at_call 17; refine (Ha.out _).mono ?_; rintro e w5 ⟨rfl, hb5⟩; (try (have z5 := (Blk.new W 26 #[.int .u64 0, .int .u64 0, .int .u64 0, .int .u64 0]).drew.on hb5; have zc := fun i => z5.cell i; have zf := fun i => z5.free i))))
        all_goals
          first
            | (have zz := z5; refine goAfter (W := W) ⟨z5.store4 (.int .u64 (limb Y 0)) (.int .u64 (limb Y 1)) (.int .u64 (limb Y 2)) (.int .u64 (limb Y 3)), below_store4 (BW_on (BW_alloc (Below.refl W.heap.size W) _).drew hb5) (Nat.le_refl _) _ _ _ _, Nat.le_refl _⟩ ?_; clear zz)
            | refine goAfter (W := W) ⟨Blk.new w5 26 #[.int .u64 (limb Y 0), .int .u64 (limb Y 1), .int .u64 (limb Y 2), .int .u64 (limb Y 3)], BW_alloc (BW_on (Below.refl W.heap.size W).drew hb5) _, hb5.size⟩ ?_
          intro W2 hA2
          obtain ⟨kg, hBW, hgW⟩ := hA2
          have kz := Kz1.out.on hBW
          have ka := Ka1.out.on hBW
          have hB := BW_on HB1.out hBW
          have cg := fun i => kg.cell i
          have fa := fun i => ka.free i
          have ca := fun i => ka.cell i
          have fz := fun i => kz.free i
          have cz := fun i => kz.cell i
          have hmono := Lib.hid (val_mono s.data.toList (i + 1))
          have hvs : val (s.data.toList.take (i + 1)) = c * 10 + d := by
            rw [htk.out, val_snoc, ← hinv.out.1, Hd.out]; omega
          have Hvs := Lib.hid hvs
          clear hb5 hvs kg
          cases xo with
          | false =>
            have hno : ¬ okT s.data.toList := by
              intro ho
              have h1 := ho.lt
              have h2 : W256 (c * 10) := by unfold W256 at h1 ⊢; have := hmono.out; rw [Hvs.out] at this; omega
              have h3 := wOk_of h2
              rw [HXo.out] at h3
              cases h3
            have Hret := Lib.hid (HF.out.ret hno)
            clear hno
            go_wp2_with fail
            have hcc := fun i => (kz.store4 (.int .u64 0) (.int .u64 0) (.int .u64 0) (.int .u64 0)).cell i
            refine bodyPost_ret (v := noV) (by simp [results, Try.results33, go_sem, hcc, noV]) rfl ⟨by rw [Hret.out], below_store4 hB (Nat.le_refl _) _ _ _ _⟩
          | true =>
            have hX : X = c * 10 := by rw [← HXX.out]; exact wN_of (ok_Wt HXo.out)
            have HX := Lib.hid hX
            clear hX
            cases yo with
            | false =>
              have hno : ¬ okT s.data.toList := by
                intro ho
                have h1 := ho.lt
                have h2 : W256 (X + d) := by unfold W256 at h1 ⊢; have := hmono.out; rw [Hvs.out] at this; rw [HX.out]; omega
                have h3 := wOk_of h2
                rw [HYo.out] at h3
                cases h3
              have Hret := Lib.hid (HF.out.ret hno)
              clear hno
              go_wp2_with fail
              have hcc := fun i => (kz.store4 (.int .u64 0) (.int .u64 0) (.int .u64 0) (.int .u64 0)).cell i
              refine bodyPost_ret (v := noV) (by simp [results, Try.results33, go_sem, hcc, noV]) rfl ⟨by rw [Hret.out], below_store4 hB (Nat.le_refl _) _ _ _ _⟩
            | true =>
              have hYW := ok_Wt HYo.out
              have hY : Y = c * 10 + d := by rw [← HY.out, wN_of hYW, HX.out]
              have HYv := Lib.hid hY
              have hYW' : W256 Y := by rw [hY, ← HX.out]; exact hYW
              have hinv' : Hid (Y = val (s.data.toList.take (i + 1)) ∧ ∀ x ∈ s.data.toList.take (i + 1), dg x) := by
                refine ⟨by rw [Hvs.out, hY], fun y hy => ?_⟩
                rw [htk.out, List.mem_append] at hy
                rcases hy with hy | hy
                · exact hinv.out.2 y hy
                · simp at hy; subst hy; exact Hdg.out
              clear hY hYW
              go_wp2_with fail
              go_roundw
              case rel => exact ⟨i + 1, Y, by omega, by omega, by go_num, hinv', hYW', (((kz.off (by simp) _).off (by simp) _).off (by simp) _).off (by simp) _, ka.store4 _ _ _ _, below_store4 hB (by omega) _ _ _ _⟩
              case measure => simp [intOf]; omega
      · have hno : ¬ okT s.data.toList := fun ho => by
          apply hdg
          refine ⟨ho.digits _ hmem, ?_⟩
          have h1 := ho.len
          simp at h1
          omega
        have Hret := Lib.hid (HF.out.ret hno)
        clear hno
        have hdd : (s[i].toNat : Int) < 48 ∨ (¬ ((s[i].toNat : Int) < 48) ∧ (57 : Int) < (s[i].toNat : Int)) ∨ (¬ ((s[i].toNat : Int) < 48) ∧ ¬ ((57 : Int) < (s[i].toNat : Int)) ∧ (100 : Int) < (i : Int)) := by
          unfold dg at hdg; omega
        have HD := Lib.hid hdd
        clear hdd hdg hmem
        rcases HD.out with hd | ⟨hd, hd1⟩ | ⟨hd, hd1, hd2⟩
        all_goals
          go_wp2_with fail
          have hcc := fun i => (kz.store4 (.int .u64 0) (.int .u64 0) (.int .u64 0) (.int .u64 0)).cell i
          refine bodyPost_ret (v := noV) (by simp [results, Try.results33, go_sem, hcc, noV]) rfl ⟨by rw [Hret.out], below_store4 hB (Nat.le_refl _) _ _ _ _⟩
    · obtain rfl : i = s.size := by omega
      have hl0 : s.data.toList.take s.size = s.data.toList := List.take_of_length_le (by simp)
      have h1 := hinv.out.1
      rw [hl0] at h1
      have Htx := Lib.hid (rtext_any c hcW)
      by_cases hok : okT s.data.toList
      · have htxt : txt c = s.toList := by rw [h1, Lib.toList_data]; exact hok.txt
        have hV := HF.out.yes hok
        have hVc : V = c := by rw [hV.1, h1]
        have hV2 := hV.2
        clear hV
        subst hV2
        subst hVc
        have ca := fun i => ka.cell i
        unfold wcells at ca ka
        clear hl0 hok h1
        have Htxt := Lib.hid htxt
        have hte : (txt V == s.toList) = true := by rw [htxt]; simp
        clear htxt
        go_wp2_with fail
        refine (Htx.out _).mono ?_
        rintro e w2 ⟨rfl, hb2⟩
        clear ca fz cz
        replace kz := kz.on hb2
        replace ka := ka.on hb2
        have ca := fun i => ka.cell i
        have fz := fun i => kz.free i
        have cz := fun i => kz.cell i
        go_wp2_with fail
        have hB2 := BW_on hB hb2
        have hcc := fun i => (kz.store4 (.int .u64 (limb V 0)) (.int .u64 (limb V 1)) (.int .u64 (limb V 2)) (.int .u64 (limb V 3))).cell i
        refine bodyPost_ret (v := .tuple #[.agg #[.int .u64 (limb V 0), .int .u64 (limb V 1), .int .u64 (limb V 2), .int .u64 (limb V 3)], .int .i64 0]) (by simp [results, Try.results33, go_sem, hcc]) rfl ⟨rfl, below_store4 hB2 (Nat.le_refl _) _ _ _ _⟩
      · have hne : ¬ txt c = s.toList := by
          intro hh
          apply hok
          have h2 := (okT_iff s.data.toList (by rw [← h1]; exact hcW)).2
          apply h2
          rw [← h1, hh, Lib.toList_data]
        have Hret := Lib.hid (HF.out.ret hok)
        have hte : (txt c == s.toList) = false := by rw [beq_eq_false_iff_ne]; exact hne
        have ca := fun i => ka.cell i
        unfold wcells at ca ka
        clear hl0 hok h1 hne
        go_wp2_with fail
        refine (Htx.out _).mono ?_
        rintro e w2 ⟨rfl, hb2⟩
        clear ca fz cz
        replace kz := kz.on hb2
        have fz := fun i => kz.free i
        have cz := fun i => kz.cell i
        go_wp2_with fail
        have hB2 := BW_on hB hb2
        have hcc := fun i => (kz.store4 (.int .u64 0) (.int .u64 0) (.int .u64 0) (.int .u64 0)).cell i
        refine bodyPost_ret (v := noV) (by simp [results, Try.results33, go_sem, hcc, noV]) rfl ⟨by rw [Hret.out], below_store4 hB2 (Nat.le_refl _) _ _ _ _⟩
end Go.Proofs.Ytibemleodghhfaa

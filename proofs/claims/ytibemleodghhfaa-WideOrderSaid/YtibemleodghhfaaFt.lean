/- Contract of layer 4 (wide): FromText. -/
import Derived.Test.YtibemleodghhfaaRt
import Derived.Test.YtibemleodghhfaaTx
import Derived.Test.YtibemleodghhfaaP3
import Derived.Deep.RegionHeld3
namespace Go.Proofs.Ytibemleodghhfaa
open Go.RowKit
attribute [local go_sem ↓] Go.wp_at_zero Go.wp_at_succ
/-- What FromText comes to. -/
def FT (l : List UInt8) (V : Nat) (err : Int) : Prop := (okT l ∧ V = val l ∧ err = 0) ∨ (¬ okT l ∧ V = 0 ∧ err = 10)
theorem FT.no {l : List UInt8} {V : Nat} {err : Int} (h : FT l V err) (hn : ¬ okT l) : V = 0 ∧ err = 10 := by
  rcases h with ⟨h, _⟩ | ⟨_, h⟩
  · exact absurd h hn
  · exact h
theorem FT.yes {l : List UInt8} {V : Nat} {err : Int} (h : FT l V err) (hn : okT l) : V = val l ∧ err = 0 := by
  rcases h with ⟨_, h⟩ | ⟨h, _⟩
  · exact h
  · exact absurd hn h
def noV : Value := .tuple #[.agg #[.int .u64 0, .int .u64 0, .int .u64 0, .int .u64 0], .int .i64 10]
theorem FT.ret {l : List UInt8} {V : Nat} {err : Int} (h : FT l V err) (hn : ¬ okT l) : noV = .tuple #[.agg #[.int .u64 (limb V 0), .int .u64 (limb V 1), .int .u64 (limb V 2), .int .u64 (limb V 3)], .int .i64 err] := by
  obtain ⟨rfl, rfl⟩ := h.no hn
  simp [noV, limb]
theorem head0 (s : ByteArray) (h0 : 0 < s.size) (hh : s.data.toList.head? = some 48) : s[0] = 48 := by
  have e : s.data.toList.head? = some s[0] := by
    rw [List.head?_eq_getElem?, List.getElem?_eq_getElem (by simpa using h0)]; rfl
  rw [hh] at e
  injection e with e
  exact e.symm
theorem ft_early (s : ByteArray) (V : Nat) (err : Int) (h : FT s.data.toList V err) (hb : s.size = 0 ∨ 78 < s.size ∨ (1 < s.size ∧ s.data.toList.head? = some 48)) (w : World) :
    Calls Try.prog 31 #[.string s] w fun e w' => e = .returned (.tuple #[.agg #[.int .u64 (limb V 0), .int .u64 (limb V 1), .int .u64 (limb V 2), .int .u64 (limb V 3)], .int .i64 err]) ∧ Below w.heap.size w w' := by
  have hno : ¬ okT s.data.toList := by
    intro ho
    have hl := ho.len
    have hne := ho.ne
    have hlead := ho.lead
    rcases hb with hb | hb | ⟨h1, h2⟩
    · apply hne; apply List.eq_nil_of_length_eq_zero; simpa using hb
    · simp at hl; omega
    · exact hlead (by simpa using h1) h2
  rw [← h.ret hno]
  clear h hno
  have hcc := fun i => (Blk.new w 26 #[.int .u64 0, .int .u64 0, .int .u64 0, .int .u64 0]).cell i
  have Hcc := Lib.hid hcc
  clear hcc
  rcases Nat.eq_zero_or_pos s.size with h0 | h0
  · have hs : s.toList = [] := by rw [Lib.toList_data]; exact List.eq_nil_of_length_eq_zero (by simpa using h0)
    clear hb h0
    go_enter Try.func31, Try.ntmps31
    go_wp2_with fail
    have hcc := Hcc.out
    refine bodyPost_ret (v := noV) (by simp [results, Try.results31, go_sem, hcc, noV]) rfl ⟨rfl, BW_alloc (Below.refl _ _) _⟩
  · have hs : ¬ s.toList = [] := by rw [Lib.toList_data]; intro hh; have hl : s.data.toList.length = s.size := Array.length_toList; rw [hh, List.length_nil] at hl; omega
    have hs2 : s.toList.isEmpty = false := by simpa using hs
    rcases Nat.lt_or_ge 78 s.size with h1 | h1
    · clear hb
      go_enter Try.func31, Try.ntmps31
      go_wp2_with fail
      have hcc := Hcc.out
      refine bodyPost_ret (v := noV) (by simp [results, Try.results31, go_sem, hcc, noV]) rfl ⟨rfl, BW_alloc (Below.refl _ _) _⟩
    · have h2 : 1 < s.size := by omega
      have h3 : (s[0].toNat : Int) = 48 := by rw [head0 s h0 (by rcases hb with hb | hb | hb; omega; omega; exact hb.2)]; rfl
      have h4 : ((s[0].toNat : Int) == 48) = true := by rw [h3]; rfl
      clear hb
      go_enter Try.func31, Try.ntmps31
      go_wp2_with fail
      have hcc := Hcc.out
      refine bodyPost_ret (v := noV) (by simp [results, Try.results31, go_sem, hcc, noV]) rfl ⟨rfl, BW_alloc (Below.refl _ _) _⟩
/-- What holds behind a statement 'x, ok := f(..)': what was there stands; the new box holds the cells. -/
theorem ok_Wt {n : Nat} (h : wOk n = true) : W256 n := of_decide_eq_true (p := n < 256 ^ 32) h
structure After (W W' : World) (g : Nat) (cs : Array Value) : Prop where
  blk : Blk W' g 26 cs
  below : Below W.heap.size W W'
  size : W.heap.size ≤ g
theorem goAfter {Q : Exit → Act → World → Prop} {e : Exit} {a : Act} {W W' : World} {g : Nat} {cs : Array Value} (h : After W W' g cs) (k : ∀ W2, After W W2 g cs → Q e a W2) : Q e a W' := k W' h
set_option maxHeartbeats 2000000 in
theorem ft_main (s : ByteArray) (V : Nat) (err : Int) (h : FT s.data.toList V err) (h0 : 0 < s.size) (h78 : s.size ≤ 78) (hlead : 1 < s.size → ¬ s.data.toList.head? = some 48) (w : World) :
    Calls Try.prog 31 #[.string s] w fun e w' => e = .returned (.tuple #[.agg #[.int .u64 (limb V 0), .int .u64 (limb V 1), .int .u64 (limb V 2), .int .u64 (limb V 3)], .int .i64 err]) ∧ Below w.heap.size w w' := by
  have HF := Lib.hid h
  have Hlead := Lib.hid hlead
  have hs : ¬ s.toList = [] := by rw [Lib.toList_data]; intro hh; have hl : s.data.toList.length = s.size := Array.length_toList; rw [hh, List.length_nil] at hl; omega
  have hs2 : s.toList.isEmpty = false := by simpa using hs
  have hd78 : decide ((78 : Int) < (s.size : Int)) = false := by simp; omega
  have hcase : ((s[0].toNat : Int) == 48) = false ∨ (((s[0].toNat : Int) == 48) = true ∧ decide ((1 : Int) < (s.size : Int)) = false) := by
    by_cases hc : (s[0].toNat : Int) = 48
    · right
      refine ⟨by rw [hc]; rfl, ?_⟩
      rw [decide_eq_false_iff_not]
      intro h1
      apply hlead (by omega)
      rw [List.head?_eq_getElem?, List.getElem?_eq_getElem (by simpa using h0)]
      congr 1
      apply UInt8.toNat_inj.1
      have e48 : s[0].toNat = 48 := by omega
      exact e48
    · exact .inl (by rw [beq_eq_false_iff_ne]; exact hc)
  have Hcase := Lib.hid hcase
  clear h hlead hcase
  obtain ⟨wb, cp, hcv, hbb, hzb, hcell⟩ := conv_bytes ((w.alloc (.cells #[.int .u64 0, .int .u64 0, .int .u64 0, .int .u64 0] 26)).alloc (.cells #[.int .u64 0, .int .u64 0, .int .u64 0, .int .u64 0] 26)) s
  have kz := ((blk1 w 26 #[.int .u64 0, .int .u64 0, .int .u64 0, .int .u64 0]).alloc (.cells #[.int .u64 0, .int .u64 0, .int .u64 0, .int .u64 0] 26)).on hbb
  have ka := (blk2 w (.cells #[.int .u64 0, .int .u64 0, .int .u64 0, .int .u64 0] 26) 26 #[.int .u64 0, .int .u64 0, .int .u64 0, .int .u64 0]).on hbb
  have hB := BW_on (BW_alloc (BW_alloc (Below.refl w.heap.size w) (.cells #[.int .u64 0, .int .u64 0, .int .u64 0, .int .u64 0] 26)) (.cells #[.int .u64 0, .int .u64 0, .int .u64 0, .int .u64 0] 26)) hbb
  simp only [World.size_alloc] at hcv hcell hzb
  have Hcell := Lib.hid hcell
  clear hcell
  have Hval : Hid (val s.data.toList = val (s.data.toList.take s.size)) := by
    have e : s.data.toList.take s.size = s.data.toList := List.take_of_length_le (by simp)
    show _ = _
    rw [e]
  have hz2 : w.heap.size + 1 < wb.heap.size := by omega
  rcases Hcase.out with h1 | ⟨h1, h2⟩
  all_goals
    go_enter Try.func31, Try.ntmps31
    go_wp2_with fail
    clear hcv
    go_loopw [32] (fun t wr => ∃ (i c : Nat), i ≤ s.size ∧ t = .int .i64 (i : Int) ∧ Hid (c = val (s.data.toList.take i) ∧ ∀ x ∈ s.data.toList.take i, dg x) ∧ W256 c ∧ Blk wr w.heap.size 26 #[.int .u64 0, .int .u64 0, .int .u64 0, .int .u64 0] ∧ Blk wr (w.heap.size + 1) 26 (wcells c) ∧ Hid (∀ j, wr.cell? ⟨w.heap.size + 1 + 1, j, none⟩ = wb.cell? ⟨w.heap.size + 1 + 1, j, none⟩) ∧ Below w.heap.size w wr ∧ wb.heap.size ≤ wr.heap.size) (fun t _ => s.size - (intOf t).toNat)
    case atStart => exact ⟨0, 0, by omega, rfl, ⟨rfl, by simp⟩, W256.zero, kz, by rw [w0]; exact ka, fun _ => rfl, hB, Nat.le_refl _⟩
    case round =>
      clear kz ka hB
      obtain ⟨i, c, hi, rfl, hinv, hcW, kz, ka, hsame, hB, hzz⟩ := hrel
      have fz := fun i => kz.free i
      have cz := fun i => kz.cell i
      by_cases hlt : i < s.size
      · have hlt' : (i : Int) < (s.size : Int) := by omega
        have hil : i < s.data.toList.length := by simpa using hlt
        have hc0 : wr.cell? ⟨w.heap.size + 1 + 1, i, none⟩ = some (.int .u8 (s.data.toList[i].toNat : Int)) := by
          rw [hsame.out, Hcell.out i hlt, List.getD_eq_getElem?_getD, List.getElem?_eq_getElem hil]; rfl
        have htk := Lib.hid (List.take_succ_eq_append_getElem hil)
        have hmem : s.data.toList[i] ∈ s.data.toList := List.getElem_mem hil
        generalize s.data.toList[i] = x at hc0 htk hmem
        have hx8 := UInt8.toNat_lt x
        by_cases hdg : dg x
        · have hd1 : ¬ ((x.toNat : Int) < 48) := by unfold dg at hdg; omega
          have hd2 : ¬ ((57 : Int) < (x.toNat : Int)) := by unfold dg at hdg; omega
          obtain ⟨d, hd⟩ : ∃ d, x.toNat = d + 48 := ⟨x.toNat - 48, by unfold dg at hdg; omega⟩
          have hd10 : d < 10 := by unfold dg at hdg; omega
          have Hd := Lib.hid hd
          have Hdg := Lib.hid hdg
          rw [hd] at hc0 hd1 hd2 hx8
          rw [show ((d + 48 : Nat) : Int) = (d : Int) + 48 from by omega] at hc0 hd1 hd2
          have Ht := Lib.hid (times_any c 10 hcW (by decide))
          have hXW : W256 (wN (c * 10)) := W256.wN _
          have HX : Hid (wN (c * 10) = wN (c * 10)) := rfl
          generalize hX : wN (c * 10) = X at Ht hXW HX
          generalize hXo : wOk (c * 10) = xo at Ht
          have hdW : W256 d := W256.small (by omega)
          have Ha := Lib.hid (add_any X d hXW hdW)
          generalize hY : wN (X + d) = Y at Ha
          generalize hYo : wOk (X + d) = yo at Ha
          have Hof := Lib.hid (of_any d (by omega))
          have HXX := Lib.hid hX
          have HXo := Lib.hid hXo
          have HY := Lib.hid hY
          have HYo := Lib.hid hYo
          have ca := fun i => ka.cell i
          unfold wcells at ca ka
          clear hd hdg hX hXo hY hYo HX hXW hdW
          go_wp2_with fail
          refine (Ht.out _).mono ?_
          rintro e w1 ⟨rfl, hb1⟩
          clear ca
          have kz1 := (kz.on hb1).alloc (.cells #[.int .u64 (limb X 0), .int .u64 (limb X 1), .int .u64 (limb X 2), .int .u64 (limb X 3)] 26)
          have ka1 := (ka.on hb1).alloc (.cells #[.int .u64 (limb X 0), .int .u64 (limb X 1), .int .u64 (limb X 2), .int .u64 (limb X 3)] 26)
          have kx1 := Blk.new w1 26 #[.int .u64 (limb X 0), .int .u64 (limb X 1), .int .u64 (limb X 2), .int .u64 (limb X 3)]
          have hB1 := BW_alloc (BW_on hB hb1) (.cells #[.int .u64 (limb X 0), .int .u64 (limb X 1), .int .u64 (limb X 2), .int .u64 (limb X 3)] 26)
          have hzz1 : wb.heap.size ≤ (w1.alloc (.cells #[.int .u64 (limb X 0), .int .u64 (limb X 1), .int .u64 (limb X 2), .int .u64 (limb X 3)] 26)).heap.size := by have := hb1.size; simp; omega
          have hs1 : ∀ j, (w1.alloc (.cells #[.int .u64 (limb X 0), .int .u64 (limb X 1), .int .u64 (limb X 2), .int .u64 (limb X 3)] 26)).cell? ⟨w.heap.size + 1 + 1, j, none⟩ = wb.cell? ⟨w.heap.size + 1 + 1, j, none⟩ := fun j => ((Below.alloc hb1 hb1.size _).cell (p := ⟨w.heap.size + 1 + 1, j, none⟩) (by show w.heap.size + 1 + 1 < wr.heap.size; omega)).trans (hsame.out j)
          have Hs1 := Lib.hid hs1
          have Kz1 := Lib.hid kz1
          have Ka1 := Lib.hid ka1
          have Kx1 := Lib.hid kx1
          have HB1 := Lib.hid hB1
          have hz1 : w.heap.size + 1 < w1.heap.size := by have := hb1.size; omega
          clear hs1 kz1 ka1 kx1 hB1 hb1 fz cz kz ka hsame hB hzz
          go_wp2_with fail
          generalize w1.alloc (.cells #[.int .u64 (limb X 0), .int .u64 (limb X 1), .int .u64 (limb X 2), .int .u64 (limb X 3)] 26) = W at *
          generalize w1.heap.size = gx at *
          have hw1 : IntKind.u8.wrap (d : Int) = (d : Int) := by rw [IntKind.wrap_u8]; omega
          have hw2 : IntKind.u64.wrap (d : Int) = (d : Int) := by rw [IntKind.wrap_u64]; omega
          have hw3 : IntKind.u8.wrap ((d : Int) + 48 - 48) = (d : Int) := by rw [IntKind.wrap_u8]; omega
          go_region_held3 (fun w' => w'.cell? ⟨gx, 0, none⟩ = some (.int .u64 (limb X 0)) ∧ w'.cell? ⟨gx, 1, none⟩ = some (.int .u64 (limb X 1)) ∧ w'.cell? ⟨gx, 2, none⟩ = some (.int .u64 (limb X 2)) ∧ w'.cell? ⟨gx, 3, none⟩ = some (.int .u64 (limb X 3)))
            ((refine blkS (t := 26) ?_; repeat (first | (with_reducible exact Kx1.out) | (with_reducible refine Blk.alloc ?_ _) | (with_reducible refine Blk.drew ?_) | (with_reducible refine Blk.on ?_ (by assumption)) | ((with_reducible refine Blk.off ?_ _ ?_); (have hl := Kx1.out.lt; have hbs := hb4.size; simp at hbs ⊢; omega)))))
            (first | (go_at_call 18; refine (Hof.out _).mono ?_; rintro e w4 ⟨rfl, hb4⟩; (try (have z4 := (Blk.new W 26 #[.int .u64 0, .int .u64 0, .int .u64 0, .int .u64 0]).drew.on hb4))) | (go_at_call 21; refine (Ha.out _).mono ?_; rintro e w5 ⟨rfl, hb5⟩; (first | (have z5 := z4.on hb5; have zc := fun i => z5.cell i; have zf := fun i => z5.free i) | (have z5 := (Blk.new w4 26 #[.int .u64 0, .int .u64 0, .int .u64 0, .int .u64 0]).on hb5; have zc := fun i => z5.cell i; have zf := fun i => z5.free i) | skip)))
          all_goals
            first
              | (have zz := z4; refine goAfter (W := W) ⟨z5.store4 (.int .u64 (limb Y 0)) (.int .u64 (limb Y 1)) (.int .u64 (limb Y 2)) (.int .u64 (limb Y 3)), below_store4 (BW_on (BW_on (BW_alloc (Below.refl W.heap.size W) _).drew hb4) hb5) (Nat.le_refl _) _ _ _ _, Nat.le_refl _⟩ ?_; clear zz)
              | (have zz := z5; refine goAfter (W := W) ⟨z5.store4 (.int .u64 (limb Y 0)) (.int .u64 (limb Y 1)) (.int .u64 (limb Y 2)) (.int .u64 (limb Y 3)), below_store4 (BW_on (BW_alloc (BW_on (Below.refl W.heap.size W).drew hb4) _) hb5) hb4.size _ _ _ _, hb4.size⟩ ?_; clear zz)
              | refine goAfter (W := W) ⟨Blk.new w5 26 #[.int .u64 (limb Y 0), .int .u64 (limb Y 1), .int .u64 (limb Y 2), .int .u64 (limb Y 3)], BW_alloc (BW_on (BW_on (Below.refl W.heap.size W).drew hb4) hb5) _, Nat.le_trans hb4.size hb5.size⟩ ?_
            intro W2 hA2
            obtain ⟨kg, hBW, hgW⟩ := hA2
            have kz := Kz1.out.on hBW
            have ka := Ka1.out.on hBW
            have hB := BW_on HB1.out hBW
            have cg := fun i => kg.cell i
            have fa := fun i => ka.free i
            have ca := fun i => ka.cell i
            have fz := fun i => kz.free i
            have cz := fun i => kz.cell i
            have hmono := Lib.hid (val_mono s.data.toList (i + 1))
            have hvs : val (s.data.toList.take (i + 1)) = c * 10 + d := by
              rw [htk.out, val_snoc, ← hinv.out.1, Hd.out]; omega
            have Hvs := Lib.hid hvs
            clear hb4 hb5 hvs kg hc0
            cases xo with
            | false =>
              have hno : ¬ okT s.data.toList := by
                intro ho
                have h1 := ho.lt
                have h2 : W256 (c * 10) := by unfold W256 at h1 ⊢; have := hmono.out; rw [Hvs.out] at this; omega
                have h3 := wOk_of h2
                rw [HXo.out] at h3
                cases h3
              have Hret := Lib.hid (HF.out.ret hno)
              clear hno
              go_wp2_with fail
              have hcc := fun i => (kz.store4 (.int .u64 0) (.int .u64 0) (.int .u64 0) (.int .u64 0)).cell i
              refine bodyPost_ret (v := noV) (by simp [results, Try.results31, go_sem, hcc, noV]) rfl ⟨by rw [Hret.out], below_store4 hB (Nat.le_refl _) _ _ _ _⟩
            | true =>
              have hX : X = c * 10 := by rw [← HXX.out]; exact wN_of (ok_Wt HXo.out)
              have HX := Lib.hid hX
              clear hX
              cases yo with
              | false =>
                have hno : ¬ okT s.data.toList := by
                  intro ho
                  have h1 := ho.lt
                  have h2 : W256 (X + d) := by unfold W256 at h1 ⊢; have := hmono.out; rw [Hvs.out] at this; rw [HX.out]; omega
                  have h3 := wOk_of h2
                  rw [HYo.out] at h3
                  cases h3
                have Hret := Lib.hid (HF.out.ret hno)
                clear hno
                go_wp2_with fail
                have hcc := fun i => (kz.store4 (.int .u64 0) (.int .u64 0) (.int .u64 0) (.int .u64 0)).cell i
                refine bodyPost_ret (v := noV) (by simp [results, Try.results31, go_sem, hcc, noV]) rfl ⟨by rw [Hret.out], below_store4 hB (Nat.le_refl _) _ _ _ _⟩
              | true =>
                have hYW := ok_Wt HYo.out
                have hY : Y = c * 10 + d := by rw [← HY.out, wN_of hYW, HX.out]
                have HYv := Lib.hid hY
                have hYW' : W256 Y := by rw [hY, ← HX.out]; exact hYW
                have hinv' : Hid (Y = val (s.data.toList.take (i + 1)) ∧ ∀ x ∈ s.data.toList.take (i + 1), dg x) := by
                  refine ⟨by rw [Hvs.out, hY], fun y hy => ?_⟩
                  rw [htk.out, List.mem_append] at hy
                  rcases hy with hy | hy
                  · exact hinv.out.2 y hy
                  · simp at hy; subst hy; exact Hdg.out
                have hs2 : Hid (∀ j, W2.cell? ⟨w.heap.size + 1 + 1, j, none⟩ = wb.cell? ⟨w.heap.size + 1 + 1, j, none⟩) := fun j => (hBW.cell (p := ⟨w.heap.size + 1 + 1, j, none⟩) (by show w.heap.size + 1 + 1 < W.heap.size; omega)).trans (Hs1.out j)
                have hsz2 := hBW.size
                clear hY hYW
                go_wp2_with fail
                go_roundw
                case rel => exact ⟨i + 1, Y, by omega, by go_num, hinv', hYW', (((kz.off (by simp) _).off (by simp) _).off (by simp) _).off (by simp) _, ka.store4 _ _ _ _, fun j => by rw [World.cell?_setCell_far _ _ _ _ (by simp), World.cell?_setCell_far _ _ _ _ (by simp), World.cell?_setCell_far _ _ _ _ (by simp), World.cell?_setCell_far _ _ _ _ (by simp)]; exact hs2.out j, below_store4 hB (by omega) _ _ _ _, by simp [World.setCell]; omega⟩
                case measure => simp [intOf]; omega
        · have hno : ¬ okT s.data.toList := fun ho => hdg (ho.digits x hmem)
          have hret := HF.out.ret hno
          have Hret := Lib.hid hret
          clear hno hret
          have hdd : (x.toNat : Int) < 48 ∨ (57 : Int) < (x.toNat : Int) := by unfold dg at hdg; omega
          have HD := Lib.hid hdd
          clear hdd hdg
          rcases HD.out with hd | hd
          all_goals
            go_wp2_with fail
            have ks := kz.store4 (.int .u64 0) (.int .u64 0) (.int .u64 0) (.int .u64 0)
            have hcc := fun i => ks.cell i
            refine bodyPost_ret (v := noV) (by simp [results, Try.results31, go_sem, hcc, noV]) rfl ⟨by rw [Hret.out], below_store4 hB (Nat.le_refl _) _ _ _ _⟩
      · obtain rfl : i = s.size := by omega
        have hl0 : s.data.toList.take s.size = s.data.toList := List.take_of_length_le (by simp)
        have hok : okT s.data.toList := by
          have h1 := hinv.out.1
          have h2 := hinv.out.2
          rw [hl0] at h1 h2
          refine ⟨by rw [← Lib.toList_data]; exact hs, h2, by rw [← h1]; exact hcW, fun hl hh => ?_⟩
          exact Hlead.out (by simpa using hl) hh
        have hV := HF.out.yes hok
        have hVc : V = c := by rw [hV.1, hinv.out.1, hl0]
        have hV2 := hV.2
        clear hV
        subst hV2
        subst hVc
        have ca := fun i => ka.cell i
        unfold wcells at ca
        clear hl0 hok
        go_wp2_with fail
        have hcc := fun i => (kz.store4 (.int .u64 (limb V 0)) (.int .u64 (limb V 1)) (.int .u64 (limb V 2)) (.int .u64 (limb V 3))).cell i
        refine bodyPost_ret (v := .tuple #[.agg #[.int .u64 (limb V 0), .int .u64 (limb V 1), .int .u64 (limb V 2), .int .u64 (limb V 3)], .int .i64 0]) (by simp [results, Try.results31, go_sem, hcc]) rfl ⟨rfl, below_store4 hB (Nat.le_refl _) _ _ _ _⟩
theorem ft_any (s : ByteArray) (V : Nat) (err : Int) (h : FT s.data.toList V err) (w : World) :
    Calls Try.prog 31 #[.string s] w fun e w' => e = .returned (.tuple #[.agg #[.int .u64 (limb V 0), .int .u64 (limb V 1), .int .u64 (limb V 2), .int .u64 (limb V 3)], .int .i64 err]) ∧ Below w.heap.size w w' := by
  by_cases hb : s.size = 0 ∨ 78 < s.size ∨ (1 < s.size ∧ s.data.toList.head? = some 48)
  · exact ft_early s V err h hb w
  · exact ft_main s V err h (by omega) (by omega) (fun h1 h2 => hb (.inr (.inr ⟨h1, h2⟩))) w
end Go.Proofs.Ytibemleodghhfaa

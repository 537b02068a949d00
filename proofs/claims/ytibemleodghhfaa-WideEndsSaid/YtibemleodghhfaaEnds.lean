/- The law WideEnds: the greatest number and 0 are the ends of the numbers; the greatest one's text has 78 digits; for every input. -/
import Derived.Test.YtibemleodghhfaaK2
import Derived.Test.YtibemleodghhfaaP3
import Derived.Deep.RegionWith
import Derived.Deep.RegionHeld3
import Derived.Outline
namespace Go.Proofs.Ytibemleodghhfaa
open Go.RowKit Go.ChangeShapes Go.WideShapes
attribute [local go_sem ↓] Go.wp_at_zero Go.wp_at_succ
theorem withW {K : Act → World → Prop} {Q : Exit → Act → World → Prop} {a : Act} {v W : World} (hB : Below v.heap.size v W) (h : ∀ W', Below v.heap.size v W' → Exit.then K Q .normal a W') : Exit.then K Q .normal a W := h _ hB
theorem withB {K : Act → World → Prop} {Q : Exit → Act → World → Prop} {a : Act} {v W : World} (hB : Below v.heap.size v W) (h : Below v.heap.size v W → Exit.then K Q .normal a W) : Exit.then K Q .normal a W := h hB
theorem Blk.held' {w : World} {g : Nat} {t : TypeId} {cs : Array Value} (h : Blk w g t cs) : ∀ w', Below w.heap.size w w' → ∀ i, w'.cell? ⟨g, i, none⟩ = cs[i]? := fun _ hb i => (h.below hb h.lt).cell i
def MX : Nat := 256 ^ 32 - 1
theorem MXW : W256 MX := by unfold W256 MX; decide
theorem most_mx (w : World) : Calls Try.prog 22 #[] w fun e w' => e = .returned (.agg #[.int .u64 (limb MX 0), .int .u64 (limb MX 1), .int .u64 (limb MX 2), .int .u64 (limb MX 3)]) ∧ Below w.heap.size w w' := most_any w
theorem add_mx (w : World) : Calls Try.prog 21 #[.agg #[.int .u64 (limb MX 0), .int .u64 (limb MX 1), .int .u64 (limb MX 2), .int .u64 (limb MX 3)], .agg #[.int .u64 (limb 1 0), .int .u64 (limb 1 1), .int .u64 (limb 1 2), .int .u64 (limb 1 3)]] w fun e w' =>
      e = .returned (.tuple #[.agg #[.int .u64 (limb 0 0), .int .u64 (limb 0 1), .int .u64 (limb 0 2), .int .u64 (limb 0 3)], .bool false]) ∧ Below w.heap.size w w' := add_most w
theorem of_nil (w : World) : Calls Try.prog 18 #[.int .u64 0] w fun e w' => e = .returned (.agg #[.int .u64 (limb 0 0), .int .u64 (limb 0 1), .int .u64 (limb 0 2), .int .u64 (limb 0 3)]) ∧ Below w.heap.size w w' := of_any 0 (by decide) w
theorem sub_nil (N : Nat) (hN : W256 N) : ∃ (d0 d1 d2 d3 : Int), ∀ w, Calls Try.prog 23 #[.agg #[.int .u64 (limb 0 0), .int .u64 (limb 0 1), .int .u64 (limb 0 2), .int .u64 (limb 0 3)], .agg #[.int .u64 (limb N 0), .int .u64 (limb N 1), .int .u64 (limb N 2), .int .u64 (limb N 3)]] w fun e w' => e = .returned (.tuple #[.agg #[.int .u64 d0, .int .u64 d1, .int .u64 d2, .int .u64 d3], .bool (decide (N = 0))]) ∧ Below w.heap.size w w' := by
  rcases Nat.eq_zero_or_pos N with rfl | h
  · exact ⟨_, _, _, _, sub_yes 0 0 hN hN (Nat.le_refl _)⟩
  · refine ⟨0, 0, 0, 0, ?_⟩
    rw [decide_eq_false (by omega)]
    exact sub_no 0 N W256.zero hN h
theorem txt_mx : (txt MX).length = 78 := by decide +kernel
theorem txt_nil : (⟨(txt 0).toArray⟩ : ByteArray) = ⟨#[48]⟩ := by
  have : txt 0 = [48] := by decide +kernel
  rw [this]
set_option maxHeartbeats 2000000 in
set_option maxRecDepth 100000 in
theorem ends_walk (N : Nat) (hN : W256 N) (w : World) :
    Calls Try.prog 7 #[.agg #[.int .u64 (limb N 0), .int .u64 (limb N 1), .int .u64 (limb N 2), .int .u64 (limb N 3)]] w fun e w' => e = .returned (.bool true) ∧ Below w.heap.size w w' := by
  have hle : N ≤ MX := by unfold W256 at hN; unfold MX; omega
  have Hsub := sub_yes MX N MXW hN hle
  have hDW : W256 (MX - N) := Nat.lt_of_le_of_lt (Nat.sub_le _ _) MXW
  have Hadd := add_any (MX - N) N hDW hN
  rw [Nat.sub_add_cancel hle, wN_of MXW, wOk_of MXW] at Hadd
  generalize MX - N = D at Hsub Hadd
  have Hsub := Lib.hid Hsub
  have Hadd := Lib.hid Hadd
  obtain ⟨d0, d1, d2, d3, Hs0⟩ := sub_nil N hN
  have Hs0 := Lib.hid Hs0
  have hcv : (0 : Int) ≤ cmpI MX N := by unfold cmpI; (repeat' split) <;> omega
  have Hcmp := Lib.hid (compare_any MX N MXW hN)
  generalize cmpI MX N = cv at Hcmp hcv
  have Htx := Lib.hid (text_any MX MXW)
  have Ht0 := text_any 0 W256.zero
  rw [txt_nil] at Ht0
  have Ht0 := Lib.hid Ht0
  have hl := Lib.hid txt_mx
  have hl2 : ((⟨(txt MX).toArray⟩ : ByteArray).size : Int) = 78 := by have := txt_mx; simp [ByteArray.size]; omega
  have He := Lib.hid (eqWide MX MX MXW MXW)
  have He0 := Lib.hid (eqWide0 N hN)
  clear hle hDW hN
  go_enter Try.func7, Try.ntmps7
  go_wp2_with fail
  refine (awake04 _).mono ?_
  rintro e w1 ⟨rfl, hb1⟩
  have ka := (blk1 w 26 (wcells N))
  replace ka := ka.below hb1 ka.lt
  unfold wcells at ka
  have B := BW_on (BW_alloc (Below.refl _ _) _) hb1
  go_wp2_with fail
  refine (most_mx _).mono ?_
  rintro e w2 ⟨rfl, hb2⟩
  replace ka := (ka.below hb2 ka.lt).alloc (.cells #[.int .u64 (limb MX 0), .int .u64 (limb MX 1), .int .u64 (limb MX 2), .int .u64 (limb MX 3)] 26)
  have km := Blk.new w2 26 #[.int .u64 (limb MX 0), .int .u64 (limb MX 1), .int .u64 (limb MX 2), .int .u64 (limb MX 3)]
  replace B := BW_alloc (BW_on B hb2) (.cells #[.int .u64 (limb MX 0), .int .u64 (limb MX 1), .int .u64 (limb MX 2), .int .u64 (limb MX 3)] 26)
  go_wp2_with fail
  generalize hW : w2.alloc (.cells #[.int .u64 (limb MX 0), .int .u64 (limb MX 1), .int .u64 (limb MX 2), .int .u64 (limb MX 3)] 26) = W at *
  have fa := ka.held'
  have fm := km.held'
  clear hW hb1 hb2 ka km
  have B := Lib.hid B
  go_region_held3 (fun w' => Below W.heap.size W w')
    ((first | exact (Below.refl _ _).drew | assumption | (repeat (first | exact Below.refl _ _ | (with_reducible assumption) | (with_reducible refine BW_alloc ?_ _) | (with_reducible refine Below.drew ?_) | (with_reducible refine BW_on ?_ (by assumption)) | ((with_reducible refine BW_off ?_ _ ?_); (first | exact Nat.le_refl _ | exact hb4.size))))))
    (first | (go_at_call 18; refine (of_one _).mono ?_; rintro e w4 ⟨rfl, hb4⟩; (try (have z4 := ((Blk.new W 26 #[.int .u64 0, .int .u64 0, .int .u64 0, .int .u64 0]).drew).on hb4))) | (go_at_call 21; refine (add_mx _).mono ?_; rintro e w5 ⟨rfl, hb5⟩; (first | (have z5 := z4.on hb5; have zc := fun i => z5.cell i; have zf := fun i => z5.free i) | (have z5 := (Blk.new w4 26 #[.int .u64 0, .int .u64 0, .int .u64 0, .int .u64 0]).on hb5; have zc := fun i => z5.cell i; have zf := fun i => z5.free i) | skip)))
  all_goals
    refine withW (v := W) (by (repeat (first | exact (Below.refl _ _).drew | exact Below.refl _ _ | (with_reducible assumption) | (with_reducible refine BW_alloc ?_ _) | (with_reducible refine Below.drew ?_) | (with_reducible refine BW_on ?_ (by assumption)) | ((with_reducible refine BW_off ?_ _ ?_); (first | exact Nat.le_refl _ | exact hb4.size))))) ?_
    intro w3 hB3
    have ca := fa _ hB3
    have cm := fm _ hB3
    go_wp2_with fail
    refine (Hsub.out _).mono ?_
    rintro e w6 ⟨rfl, hb6⟩
    clear ca cm
    have kd := Blk.new w6 26 #[.int .u64 (limb D 0), .int .u64 (limb D 1), .int .u64 (limb D 2), .int .u64 (limb D 3)]
    have hB6 := BW_alloc (BW_on hB3 hb6) (.cells #[.int .u64 (limb D 0), .int .u64 (limb D 1), .int .u64 (limb D 2), .int .u64 (limb D 3)] 26)
    have ca := fa _ hB6
    have cd := fun i => kd.cell i
    go_wp2_with fail
    refine (Hadd.out _).mono ?_
    rintro e w7 ⟨rfl, hb7⟩
    clear ca cd
    have ks := Blk.new w7 26 #[.int .u64 (limb MX 0), .int .u64 (limb MX 1), .int .u64 (limb MX 2), .int .u64 (limb MX 3)]
    have hB7 := BW_alloc (BW_on hB6 hb7) (.cells #[.int .u64 (limb MX 0), .int .u64 (limb MX 1), .int .u64 (limb MX 2), .int .u64 (limb MX 3)] 26)
    go_wp2_with fail
    generalize hV : w7.alloc (.cells #[.int .u64 (limb MX 0), .int .u64 (limb MX 1), .int .u64 (limb MX 2), .int .u64 (limb MX 3)] 26) = V at *
    have fs := ks.held'
    have fa7 := fun w' h => fa w' (BW_on hB7 h)
    have fm7 := fun w' h => fm w' (BW_on hB7 h)
    clear hV kd ks
    go_region_held3 (fun w' => Below V.heap.size V w')
      ((repeat (first | exact (Below.refl _ _).drew | exact Below.refl _ _ | (with_reducible assumption) | (with_reducible refine BW_alloc ?_ _) | (with_reducible refine Below.drew ?_) | (with_reducible refine BW_on ?_ (by assumption)) | ((with_reducible refine BW_off ?_ _ ?_); (first | exact Nat.le_refl _ | exact hb8.size)))))
      (first | (go_at_call 18; refine (of_nil _).mono ?_; rintro e w8 ⟨rfl, hb8⟩; (try (have z4 := ((Blk.new V 26 #[.int .u64 0, .int .u64 0, .int .u64 0, .int .u64 0]).drew).on hb8))) | (go_at_call 23; refine (Hs0.out _).mono ?_; rintro e w9 ⟨rfl, hb9⟩; (first | (have z5 := z4.on hb9; have zc := fun i => z5.cell i; have zf := fun i => z5.free i) | (have z5 := (Blk.new w8 26 #[.int .u64 0, .int .u64 0, .int .u64 0, .int .u64 0]).on hb9; have zc := fun i => z5.cell i; have zf := fun i => z5.free i) | skip)))
    all_goals
      refine withW (v := V) (by (repeat (first | exact (Below.refl _ _).drew | exact Below.refl _ _ | (with_reducible assumption) | (with_reducible refine BW_alloc ?_ _) | (with_reducible refine Below.drew ?_) | (with_reducible refine BW_on ?_ (by assumption)) | ((with_reducible refine BW_off ?_ _ ?_); (first | exact Nat.le_refl _ | exact hb8.size))))) ?_
      intro w10 hB10
      have ka := fun w' h => fa7 w' (BW_on hB10 h)
      clear hb6 hb7
      have kz := Blk.new w10 26 #[.int .u64 0, .int .u64 0, .int .u64 0, .int .u64 0]
      have hB11 := BW_alloc hB10 (.cells #[.int .u64 0, .int .u64 0, .int .u64 0, .int .u64 0] 26)
      have ca := fa7 _ hB11
      have cm := fm7 _ hB11
      have cs := fs _ hB11
      have cz := fun i => kz.cell i
      have he := He.out
      have he0 := He0.out
      go_wp2_with fail
      refine (Hcmp.out _).mono ?_
      rintro e w12 ⟨rfl, hb12⟩
      replace kz := kz.below hb12 kz.lt
      have hB12 := BW_on hB11 hb12
      clear ca cm cs cz
      have ca := fa7 _ hB12
      have cm := fm7 _ hB12
      have cs := fs _ hB12
      have cz := fun i => kz.cell i
      go_wp2_with fail
      refine (Htx.out _).mono ?_
      rintro e w13 ⟨rfl, hb13⟩
      have hB13 := BW_on hB12 hb13
      clear ca cm cs cz
      go_wp2_with fail
      refine (of_nil _).mono ?_
      rintro e w14 ⟨rfl, hb14⟩
      have hB14 := BW_on hB13 hb14
      go_wp2_with fail
      refine (Ht0.out _).mono ?_
      rintro e w15 ⟨rfl, hb15⟩
      have hB15 := BW_on hB14 hb15
      go_wp2_with fail
      go_ret
      exact ⟨rfl, BW_on B.out (BW_on hB7 hB15)⟩
set_option maxRecDepth 100000 in
theorem ends_lifted (os : Os) (started : os.Started) (H : Type) (enc : TypeId × Value → H) :
    ReturnsInHanded {} Try.checked os 7 .any (Rows.wideEndsSpec.pre6 enc Try.prog Try.f7 Rows.wideEndsRow.domain false) (Rows.wideEndsSpec.post enc Try.prog Try.f7 false true false false) := by
  refine law_lifted (C := Try.checked) (tb := 4) (by kernel_rfl) started (by kernel_rfl) Try.func7
    (ChangeSpec.witness6 (enc := enc) (C := Try.checked) false ⟨#[], #[.agg #[.int .u64 0, .int .u64 0, .int .u64 0, .int .u64 0]], []⟩ 8 (by kernel_rfl) (by kernel_rfl) (by kernel_rfl) (by kernel_rfl))
    laidOut (by kernel_rfl) (by kernel_rfl) Try.underlying4 rfl ?_ ?_
  · intro ds hd
    have hp : Try.f7.params.toList.length = 1 := by kernel_rfl
    rw [hp] at hd
    match ds, hd with
    | [d], _ => rfl
  · intro W base args ds ps hval hA _ _
    have hval' : ∀ (j : Nat) t v, Try.f7.params[j]? = some t → args[j]? = some v → Value.okWide Try.prog W .any base t v := hval
    have hA' : DataW.TrodAll enc Try.prog W 0 (fun _ => true) true Try.f7.params.toList args.toList ds ps := hA
    rw [Try.params7] at hA' hval'
    obtain ⟨v0, d0, rfl, rfl, h0⟩ := trodAll_one hA'
    obtain ⟨N, hN, rfl⟩ := wide_args (hval' 0 26 v0 rfl rfl) h0
    exact ends_walk N hN W
theorem WideEnds_holds : Rows.WideEndsSaid :=
  OpenClaim.holds_of_wide 7 Try.f7 rfl rfl rfl rfl rfl rfl rfl ⟨rfl, rfl, rfl, rfl, rfl⟩ rfl rfl rfl rfl rfl (by kernel_rfl) Try.func7 (by kernel_rfl)
    (of_decide_eq_true (by kernel_rfl)) (by unfold Func.isWrapper; first | (rw [if_pos (by decide +kernel)]; kernel_rfl) | (rw [if_neg (by decide +kernel)]; exact ⟨rfl, rfl⟩))
    (fun os started H enc _ => ends_lifted os started H enc)
end Go.Proofs.Ytibemleodghhfaa

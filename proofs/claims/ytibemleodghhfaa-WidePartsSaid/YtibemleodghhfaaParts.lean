/- The law WideParts: a number is its part times n, and the rest, which is less than n; for every input. -/
import Derived.Test.YtibemleodghhfaaK2
import Derived.Deep.RegionWith
import Derived.Deep.RegionHeld3
import Derived.Outline
namespace Go.Proofs.Ytibemleodghhfaa
open Go.RowKit Go.ChangeShapes Go.WideShapes
attribute [local go_sem ↓] Go.wp_at_zero Go.wp_at_succ
set_option maxHeartbeats 1000000 in
theorem parts_pos (N n : Nat) (hN : W256 N) (hn : 0 < n) (hn2 : n < 18446744073709551616) (w : World) :
    Calls Try.prog 4 #[.agg #[.int .u64 (limb N 0), .int .u64 (limb N 1), .int .u64 (limb N 2), .int .u64 (limb N 3)], .int .u64 (n : Int)] w fun e w' => e = .returned (.bool true) ∧ Below w.heap.size w w' := by
  have hz : ((n : Int) == 0) = false := by simp; omega
  have Hp := Lib.hid (fun w => part_yes N n hN hn hn2 w)
  have hq : W256 (N / n) := by have := Nat.div_le_self N n; unfold W256 at *; omega
  have e1 : N / n * n ≤ N := Nat.div_mul_le_self N n
  have e2 : N / n * n + N % n = N := by rw [Nat.mul_comm]; exact Nat.div_add_mod N n
  have hr : N % n < n := Nat.mod_lt _ hn
  generalize N / n = q at *
  generalize N % n = r at *
  have hmW : W256 (q * n) := by unfold W256 at *; omega
  have Ht := Lib.hid (fun w => rtimes_any q n hq hn2 w)
  rw [wN_of hmW, wOk_of hmW] at Ht
  generalize q * n = m at *
  have hr2 : r < 18446744073709551616 := by omega
  have Ha := Lib.hid (fun w => radd_any m r hmW (W256.small hr2) w)
  have hmr : W256 (m + r) := by rw [e2]; exact hN
  rw [wN_of hmr, wOk_of hmr, e2] at Ha
  have Hof := Lib.hid (fun w => of_any r hr2 w)
  have hri : (r : Int) < (n : Int) := by omega
  clear e1 e2 hmr hr2 hr hn hn2
  go_enter Try.func4, Try.ntmps4
  go_wp2_with fail
  refine (awake04 _).mono ?_
  rintro e w1 ⟨rfl, hb1⟩
  have k0 := (blk1 w 26 (wcells N)).below hb1 (blk1 w _ _).lt
  have hc1 := fun i => k0.cell i
  unfold wcells at hc1
  go_wp2_with fail
  refine (Hp.out _).mono ?_
  rintro e w2 ⟨rfl, hb2⟩
  have j2 := Blk.new w2 26 (wcells q)
  have k2 := (k0.below hb2 k0.lt).alloc (.cells (wcells q) 26)
  have hc2 := fun i => j2.cell i
  unfold wcells at hc2
  clear hc1
  go_wp2_with fail
  refine (Ht.out _).mono ?_
  rintro e w3 ⟨rfl, hb3⟩
  clear hc2
  have b1 : Below w.heap.size w w1 := BW_on (BW_alloc (Below.refl _ _) _) hb1
  have b2 : Below w.heap.size w w2 := BW_on b1 hb2
  have b3 : Below w.heap.size w w3 := BW_on (by repeat (first | exact b2 | with_reducible refine BW_alloc ?_ _)) hb3
  have n3 : Blk w3 w.heap.size 26 (wcells N) := by
    refine Blk.on ?_ hb3
    repeat (first | exact k2 | with_reducible refine Blk.alloc ?_ _)
  have l3 := n3.lt
  unfold wcells at n3
  have N3 := Lib.hid n3
  have B3 := Lib.hid b3
  have L3 := Lib.hid l3
  clear n3 b1 b2 b3 k0 j2 k2 l3
  go_wp2_with fail
  have k3 := Blk.new w3 26 (wcells m)
  have hs3 : w3.heap.size < (w3.alloc (.cells (wcells m) 26)).heap.size := by simp
  unfold wcells at k3
  have K3 := Lib.hid k3
  clear k3 hs3
  go_region_held3 (fun w' => w'.cell? ⟨w3.heap.size, 0, none⟩ = some (.int .u64 (limb m 0)) ∧ w'.cell? ⟨w3.heap.size, 1, none⟩ = some (.int .u64 (limb m 1)) ∧ w'.cell? ⟨w3.heap.size, 2, none⟩ = some (.int .u64 (limb m 2)) ∧ w'.cell? ⟨w3.heap.size, 3, none⟩ = some (.int .u64 (limb m 3)))
    ((refine blkS (t := 26) ?_; repeat (first | (with_reducible exact K3.out) | (with_reducible refine Blk.alloc ?_ _) | (with_reducible refine Blk.drew ?_) | (with_reducible refine Blk.on ?_ (by assumption)) | ((with_reducible refine Blk.off ?_ _ ?_); (first | exact Nat.ne_of_lt (Nat.lt_succ_self _) | (have hbs := hb4.size; simp at hbs ⊢; omega))))))
    (first | (go_at_call 18; refine (Hof.out _).mono ?_; rintro e w4 ⟨rfl, hb4⟩; (try (have z4 := (blk2 w3 (.cells #[.int .u64 (limb m 0), .int .u64 (limb m 1), .int .u64 (limb m 2), .int .u64 (limb m 3)] 26) 26 #[.int .u64 0, .int .u64 0, .int .u64 0, .int .u64 0]).drew.on hb4))) | (go_at_call 17; refine (Ha.out _).mono ?_; rintro e w5 ⟨rfl, hb5⟩; (first | (have z5 := z4.on hb5; have zc := fun i => z5.cell i; have zf := fun i => z5.free i) | (have z5 := (Blk.new w4 26 #[.int .u64 0, .int .u64 0, .int .u64 0, .int .u64 0]).on hb5; have zc := fun i => z5.cell i; have zf := fun i => z5.free i) | skip)))
  · have hN2 := Lib.hid (eqWide N N hN hN)
    refine with2 (cs := #[.int .u64 (limb N 0), .int .u64 (limb N 1), .int .u64 (limb N 2), .int .u64 (limb N 3)]) (ds := #[.int .u64 (limb N 0), .int .u64 (limb N 1), .int .u64 (limb N 2), .int .u64 (limb N 3)]) w.heap.size w5.heap.size (v := w) ?_ (Blk.new w5 26 _) ?_ ?_
    · repeat (first | (with_reducible exact N3.out) | (with_reducible refine Blk.alloc ?_ _) | (with_reducible refine Blk.drew ?_) | (with_reducible refine Blk.on ?_ (by assumption)) | ((with_reducible refine Blk.off ?_ _ ?_); (have hl := L3.out; have hbs := hb4.size; have hbt := hb5.size; simp at hbs ⊢; omega)))
    · repeat (first | (with_reducible exact B3.out) | (with_reducible refine BW_alloc ?_ _) | (with_reducible refine Below.drew ?_) | (with_reducible refine BW_on ?_ (by assumption)) | ((with_reducible refine BW_off ?_ _ ?_); (have hl := L3.out; have hbs := hb4.size; have hbt := hb5.size; simp at hbs ⊢; omega)))
    intro kN kS hB
    have cN := fun i => kN.cell i
    have cS := fun i => kS.cell i
    have hE := hN2.out
    clear kN kS
    go_wp2_with fail
    go_ret
    exact ⟨rfl, hB⟩
  · have hN2 := Lib.hid (eqWide N N hN hN)
    refine with2 (cs := #[.int .u64 (limb N 0), .int .u64 (limb N 1), .int .u64 (limb N 2), .int .u64 (limb N 3)]) (ds := #[.int .u64 (limb N 0), .int .u64 (limb N 1), .int .u64 (limb N 2), .int .u64 (limb N 3)]) w.heap.size w4.heap.size (v := w) ?_ (z5.store4 _ _ _ _) ?_ ?_
    · repeat (first | (with_reducible exact N3.out) | (with_reducible refine Blk.alloc ?_ _) | (with_reducible refine Blk.drew ?_) | (with_reducible refine Blk.on ?_ (by assumption)) | ((with_reducible refine Blk.off ?_ _ ?_); (have hl := L3.out; have hbs := hb4.size; have hbt := hb5.size; simp at hbs ⊢; omega)))
    · repeat (first | (with_reducible exact B3.out) | (with_reducible refine BW_alloc ?_ _) | (with_reducible refine Below.drew ?_) | (with_reducible refine BW_on ?_ (by assumption)) | ((with_reducible refine BW_off ?_ _ ?_); (have hl := L3.out; have hbs := hb4.size; have hbt := hb5.size; simp at hbs ⊢; omega)))
    intro kN kS hB
    have cN := fun i => kN.cell i
    have cS := fun i => kS.cell i
    have hE := hN2.out
    clear kN kS
    go_wp2_with fail
    go_ret
    exact ⟨rfl, hB⟩
  · have hN2 := Lib.hid (eqWide N N hN hN)
    refine with2 (cs := #[.int .u64 (limb N 0), .int .u64 (limb N 1), .int .u64 (limb N 2), .int .u64 (limb N 3)]) (ds := #[.int .u64 (limb N 0), .int .u64 (limb N 1), .int .u64 (limb N 2), .int .u64 (limb N 3)]) w.heap.size (w3.heap.size + 1) (v := w) ?_ (z5.store4 _ _ _ _) ?_ ?_
    · repeat (first | (with_reducible exact N3.out) | (with_reducible refine Blk.alloc ?_ _) | (with_reducible refine Blk.drew ?_) | (with_reducible refine Blk.on ?_ (by assumption)) | ((with_reducible refine Blk.off ?_ _ ?_); (have hl := L3.out; have hbs := hb4.size; have hbt := hb5.size; simp at hbs ⊢; omega)))
    · repeat (first | (with_reducible exact B3.out) | (with_reducible refine BW_alloc ?_ _) | (with_reducible refine Below.drew ?_) | (with_reducible refine BW_on ?_ (by assumption)) | ((with_reducible refine BW_off ?_ _ ?_); (have hl := L3.out; have hbs := hb4.size; have hbt := hb5.size; simp at hbs ⊢; omega)))
    intro kN kS hB
    have cN := fun i => kN.cell i
    have cS := fun i => kS.cell i
    have hE := hN2.out
    clear kN kS
    go_wp2_with fail
    go_ret
    exact ⟨rfl, hB⟩
set_option maxHeartbeats 1000000 in
theorem parts_zero (N : Nat) (w : World) :
    Calls Try.prog 4 #[.agg #[.int .u64 (limb N 0), .int .u64 (limb N 1), .int .u64 (limb N 2), .int .u64 (limb N 3)], .int .u64 0] w fun e w' => e = .returned (.bool true) ∧ Below w.heap.size w w' := by
  have hz : (Op.equalIn 10000 26 (.agg #[.int .u64 0, .int .u64 0, .int .u64 0, .int .u64 0]) (.agg #[.int .u64 0, .int .u64 0, .int .u64 0, .int .u64 0])).run Try.prog = fun w => .ok true w := by
    funext w; rw [eqWide4]; rfl
  go_enter Try.func4, Try.ntmps4
  go_wp2_with fail
  refine (awake04 _).mono ?_
  rintro e w1 ⟨rfl, hb1⟩
  have k0 := (blk1 w 26 (wcells N)).below hb1 (blk1 w _ _).lt
  have hc1 := fun i => k0.cell i
  unfold wcells at hc1
  have b1 : Below w.heap.size w w1 := BW_on (BW_alloc (Below.refl _ _) _) hb1
  go_wp2_with fail
  refine (part_zero _ _).mono ?_
  rintro e w2 ⟨rfl, hb2⟩
  have b2 : Below w.heap.size w w2 := BW_on b1 hb2
  clear k0 hc1
  have hq := fun i => (blk1 w2 26 #[.int .u64 0, .int .u64 0, .int .u64 0, .int .u64 0]).cell i
  have hq2 := fun o i => (blk2 w2 o 26 #[.int .u64 0, .int .u64 0, .int .u64 0, .int .u64 0]).cell i
  go_wp2_with fail
  go_ret
  exact ⟨rfl, BW_alloc (BW_alloc b2 _) _⟩
theorem parts_walk (N n : Nat) (hN : W256 N) (hn2 : n < 18446744073709551616) (w : World) :
    Calls Try.prog 4 #[.agg #[.int .u64 (limb N 0), .int .u64 (limb N 1), .int .u64 (limb N 2), .int .u64 (limb N 3)], .int .u64 (n : Int)] w fun e w' => e = .returned (.bool true) ∧ Below w.heap.size w w' := by
  rcases Nat.eq_zero_or_pos n with rfl | h
  · exact parts_zero N w
  · exact parts_pos N n hN h hn2 w
set_option maxRecDepth 100000 in
theorem parts_lifted (os : Os) (started : os.Started) (H : Type) (enc : TypeId × Value → H) :
    ReturnsInHanded {} Try.checked os 4 .any (Rows.widePartsSpec.pre6 enc Try.prog Try.f4 Rows.widePartsRow.domain false) (Rows.widePartsSpec.post enc Try.prog Try.f4 false true false false) := by
  refine law_lifted (C := Try.checked) (tb := 4) (by kernel_rfl) started (by kernel_rfl) Try.func4
    (ChangeSpec.witness6 (enc := enc) (C := Try.checked) false ⟨#[], #[.agg #[.int .u64 0, .int .u64 0, .int .u64 0, .int .u64 0], .int .u64 0], []⟩ 8 (by kernel_rfl) (by kernel_rfl) (by kernel_rfl) (by kernel_rfl))
    laidOut (by kernel_rfl) (by kernel_rfl) Try.underlying4 rfl ?_ ?_
  · intro ds hd
    have hp : Try.f4.params.toList.length = 2 := by kernel_rfl
    rw [hp] at hd
    match ds, hd with
    | [d, d'], _ => rfl
  · intro W base args ds ps hval hA _ _
    have hval' : ∀ (j : Nat) t v, Try.f4.params[j]? = some t → args[j]? = some v → Value.okWide Try.prog W .any base t v := hval
    have hA' : DataW.TrodAll enc Try.prog W 0 (fun _ => true) true Try.f4.params.toList args.toList ds ps := hA
    rw [Try.params4] at hA' hval'
    obtain ⟨v0, v1, d0, d1, p0, p1, rfl, rfl, rfl, h0, h1⟩ := trodAll_two hA'
    obtain ⟨N, hN, rfl⟩ := wide_args (hval' 0 26 v0 rfl rfl) h0
    obtain ⟨z, rfl, _, _, hz⟩ := open_int Try.underlying24 (hval' 1 24 v1 rfl rfl) h1
    obtain ⟨n, rfl, hn⟩ := u64_nat hz
    exact parts_walk N n hN hn W
theorem WideParts_holds : Rows.WidePartsSaid :=
  OpenClaim.holds_of_wide 4 Try.f4 rfl rfl rfl rfl rfl rfl rfl ⟨rfl, rfl, rfl, rfl, rfl⟩ rfl rfl rfl rfl rfl (by kernel_rfl) Try.func4 (by kernel_rfl)
    (of_decide_eq_true (by kernel_rfl)) (by unfold Func.isWrapper; first | (rw [if_pos (by decide +kernel)]; kernel_rfl) | (rw [if_neg (by decide +kernel)]; exact ⟨rfl, rfl⟩))
    (fun os started H enc _ => parts_lifted os started H enc)
end Go.Proofs.Ytibemleodghhfaa

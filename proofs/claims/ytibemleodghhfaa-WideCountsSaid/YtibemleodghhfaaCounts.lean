/- The law WideCounts: sums, differences, products, and what is asked, are as the document says; for every input. -/
import Derived.Test.YtibemleodghhfaaK2
import Derived.Test.YtibemleodghhfaaP3
import Derived.Deep.RegionWith
import Derived.Deep.RegionHeld3
import Derived.Outline
namespace Go.Proofs.Ytibemleodghhfaa
open Go.RowKit Go.ChangeShapes Go.WideShapes
attribute [local go_sem ↓] Go.wp_at_zero Go.wp_at_succ
theorem eqSame (a b c d : Int) (w : World) : (Op.equalIn 10000 26 (.agg #[.int .u64 a, .int .u64 b, .int .u64 c, .int .u64 d]) (.agg #[.int .u64 a, .int .u64 b, .int .u64 c, .int .u64 d])).run Try.prog w = .ok true w := by
  rw [eqWide4]; simp
theorem sub_both (N M : Nat) (hN : W256 N) (hM : W256 M) : ∃ (d0 d1 d2 d3 : Int) (L : Bool),
    (∀ w, Calls Try.prog 23 #[.agg #[.int .u64 (limb N 0), .int .u64 (limb N 1), .int .u64 (limb N 2), .int .u64 (limb N 3)], .agg #[.int .u64 (limb M 0), .int .u64 (limb M 1), .int .u64 (limb M 2), .int .u64 (limb M 3)]] w fun e w' => e = .returned (.tuple #[.agg #[.int .u64 d0, .int .u64 d1, .int .u64 d2, .int .u64 d3], .bool L]) ∧ Below w.heap.size w w') ∧
    (∀ w, Calls Try.prog 26 #[.agg #[.int .u64 (limb N 0), .int .u64 (limb N 1), .int .u64 (limb N 2), .int .u64 (limb N 3)], .agg #[.int .u64 (limb M 0), .int .u64 (limb M 1), .int .u64 (limb M 2), .int .u64 (limb M 3)]] w fun e w' => e = .returned (.tuple #[.agg #[.int .u64 d0, .int .u64 d1, .int .u64 d2, .int .u64 d3], .bool L]) ∧ Below w.heap.size w w') := by
  rcases Nat.lt_or_ge N M with h | h
  · exact ⟨0, 0, 0, 0, false, sub_no N M hN hM h, rsub_no N M hN hM h⟩
  · exact ⟨_, _, _, _, true, sub_yes N M hN hM h, rsub_yes N M hN hM h⟩
theorem Blk.step {w w' : World} {g : Nat} {t : TypeId} {cs : Array Value} (h : Blk w g t cs) (hb : Below w.heap.size w w') (o : Obj) : Blk (w'.alloc o) g t cs := (h.below hb h.lt).alloc o
theorem Blk.held {w : World} {g : Nat} {t : TypeId} {cs : Array Value} (h : Blk w g t cs) : ∀ w', Below w.heap.size w w' → ∀ i, w'.cell? ⟨g, i, none⟩ = cs[i]? := fun _ hb i => (h.below hb h.lt).cell i
set_option maxHeartbeats 2000000 in
set_option maxRecDepth 100000 in
theorem counts_walk (N M n : Nat) (hN : W256 N) (hM : W256 M) (hn : n < 18446744073709551616) (w : World) :
    Calls Try.prog 9 #[.agg #[.int .u64 (limb N 0), .int .u64 (limb N 1), .int .u64 (limb N 2), .int .u64 (limb N 3)], .agg #[.int .u64 (limb M 0), .int .u64 (limb M 1), .int .u64 (limb M 2), .int .u64 (limb M 3)], .int .u64 (n : Int)] w fun e w' => e = .returned (.bool true) ∧ Below w.heap.size w w' := by
  have Hadd := Lib.hid (add_any N M hN hM)
  have Hra := Lib.hid (radd_any N M hN hM)
  generalize wN (N + M) = S at Hadd Hra
  generalize wOk (N + M) = so at Hadd Hra
  obtain ⟨d0, d1, d2, d3, L, Hs, Hrs⟩ := sub_both N M hN hM
  have Hs := Lib.hid Hs
  have Hrs := Lib.hid Hrs
  have Ht := Lib.hid (times_any N n hN hn)
  have Hrt := Lib.hid (rtimes_any N n hN hn)
  generalize wN (N * n) = T at Ht Hrt
  generalize wOk (N * n) = tk at Ht Hrt
  have Hcmp := Lib.hid (compare_any N M hN hM)
  have Hrc := Lib.hid (rcompare_any N M hN hM)
  generalize cmpI N M = cv at Hcmp Hrc
  have Hz := Lib.hid (zero_any N hN)
  have Hof := of_any n hn
  rw [(limb_small n hn).1, (limb_small n hn).2.1, (limb_small n hn).2.2.1, (limb_small n hn).2.2.2] at Hof
  have Hof := Lib.hid Hof
  have He := Lib.hid eqSame
  have He0 := Lib.hid (eqWide0 N hN)
  clear hn hN hM
  go_enter Try.func9, Try.ntmps9
  go_wp2_with fail
  refine (awake04 _).mono ?_
  rintro e w1 ⟨rfl, hb1⟩
  have ka := (blk1 w 26 (wcells N)).alloc (.cells (wcells M) 26)
  have kb := blk2 w (.cells (wcells N) 26) 26 (wcells M)
  replace ka := ka.below hb1 ka.lt
  replace kb := kb.below hb1 kb.lt
  unfold wcells at ka kb
  have B := BW_on (BW_alloc (BW_alloc (Below.refl _ _) _) _) hb1
  have ca := fun i => ka.cell i
  have cb := fun i => kb.cell i
  go_wp2_with fail
  refine (Hadd.out _).mono ?_
  rintro e w2 ⟨rfl, hb2⟩
  clear ca cb
  replace ka := ka.step hb2 (.cells #[.int .u64 (limb S 0), .int .u64 (limb S 1), .int .u64 (limb S 2), .int .u64 (limb S 3)] 26)
  replace kb := kb.step hb2 (.cells #[.int .u64 (limb S 0), .int .u64 (limb S 1), .int .u64 (limb S 2), .int .u64 (limb S 3)] 26)
  have ks := Blk.new w2 26 #[.int .u64 (limb S 0), .int .u64 (limb S 1), .int .u64 (limb S 2), .int .u64 (limb S 3)]
  replace B := BW_alloc (BW_on B hb2) (.cells #[.int .u64 (limb S 0), .int .u64 (limb S 1), .int .u64 (limb S 2), .int .u64 (limb S 3)] 26)
  have ca := fun i => ka.cell i
  have cb := fun i => kb.cell i
  go_wp2_with fail
  refine (Hra.out _).mono ?_
  rintro e w3 ⟨rfl, hb3⟩
  clear ca cb
  replace ka := ka.step hb3 (.cells #[.int .u64 (limb S 0), .int .u64 (limb S 1), .int .u64 (limb S 2), .int .u64 (limb S 3)] 26)
  replace kb := kb.step hb3 (.cells #[.int .u64 (limb S 0), .int .u64 (limb S 1), .int .u64 (limb S 2), .int .u64 (limb S 3)] 26)
  replace ks := ks.step hb3 (.cells #[.int .u64 (limb S 0), .int .u64 (limb S 1), .int .u64 (limb S 2), .int .u64 (limb S 3)] 26)
  have kt := Blk.new w3 26 #[.int .u64 (limb S 0), .int .u64 (limb S 1), .int .u64 (limb S 2), .int .u64 (limb S 3)]
  replace B := BW_alloc (BW_on B hb3) (.cells #[.int .u64 (limb S 0), .int .u64 (limb S 1), .int .u64 (limb S 2), .int .u64 (limb S 3)] 26)
  have ca := fun i => ka.cell i
  have cb := fun i => kb.cell i
  go_wp2_with fail
  refine (Hs.out _).mono ?_
  rintro e w4 ⟨rfl, hb4⟩
  clear ca cb
  replace ka := ka.step hb4 (.cells #[.int .u64 (d0), .int .u64 (d1), .int .u64 (d2), .int .u64 (d3)] 26)
  replace kb := kb.step hb4 (.cells #[.int .u64 (d0), .int .u64 (d1), .int .u64 (d2), .int .u64 (d3)] 26)
  replace ks := ks.step hb4 (.cells #[.int .u64 (d0), .int .u64 (d1), .int .u64 (d2), .int .u64 (d3)] 26)
  replace kt := kt.step hb4 (.cells #[.int .u64 (d0), .int .u64 (d1), .int .u64 (d2), .int .u64 (d3)] 26)
  have ku := Blk.new w4 26 #[.int .u64 (d0), .int .u64 (d1), .int .u64 (d2), .int .u64 (d3)]
  replace B := BW_alloc (BW_on B hb4) (.cells #[.int .u64 (d0), .int .u64 (d1), .int .u64 (d2), .int .u64 (d3)] 26)
  have ca := fun i => ka.cell i
  have cb := fun i => kb.cell i
  go_wp2_with fail
  refine (Hrs.out _).mono ?_
  rintro e w5 ⟨rfl, hb5⟩
  clear ca cb
  replace ka := ka.step hb5 (.cells #[.int .u64 (d0), .int .u64 (d1), .int .u64 (d2), .int .u64 (d3)] 26)
  replace kb := kb.step hb5 (.cells #[.int .u64 (d0), .int .u64 (d1), .int .u64 (d2), .int .u64 (d3)] 26)
  replace ks := ks.step hb5 (.cells #[.int .u64 (d0), .int .u64 (d1), .int .u64 (d2), .int .u64 (d3)] 26)
  replace kt := kt.step hb5 (.cells #[.int .u64 (d0), .int .u64 (d1), .int .u64 (d2), .int .u64 (d3)] 26)
  replace ku := ku.step hb5 (.cells #[.int .u64 (d0), .int .u64 (d1), .int .u64 (d2), .int .u64 (d3)] 26)
  have kv := Blk.new w5 26 #[.int .u64 (d0), .int .u64 (d1), .int .u64 (d2), .int .u64 (d3)]
  replace B := BW_alloc (BW_on B hb5) (.cells #[.int .u64 (d0), .int .u64 (d1), .int .u64 (d2), .int .u64 (d3)] 26)
  have ca := fun i => ka.cell i
  have cb := fun i => kb.cell i
  go_wp2_with fail
  refine (Ht.out _).mono ?_
  rintro e w6 ⟨rfl, hb6⟩
  clear ca cb
  replace ka := ka.step hb6 (.cells #[.int .u64 (limb T 0), .int .u64 (limb T 1), .int .u64 (limb T 2), .int .u64 (limb T 3)] 26)
  replace kb := kb.step hb6 (.cells #[.int .u64 (limb T 0), .int .u64 (limb T 1), .int .u64 (limb T 2), .int .u64 (limb T 3)] 26)
  replace ks := ks.step hb6 (.cells #[.int .u64 (limb T 0), .int .u64 (limb T 1), .int .u64 (limb T 2), .int .u64 (limb T 3)] 26)
  replace kt := kt.step hb6 (.cells #[.int .u64 (limb T 0), .int .u64 (limb T 1), .int .u64 (limb T 2), .int .u64 (limb T 3)] 26)
  replace ku := ku.step hb6 (.cells #[.int .u64 (limb T 0), .int .u64 (limb T 1), .int .u64 (limb T 2), .int .u64 (limb T 3)] 26)
  replace kv := kv.step hb6 (.cells #[.int .u64 (limb T 0), .int .u64 (limb T 1), .int .u64 (limb T 2), .int .u64 (limb T 3)] 26)
  have kx := Blk.new w6 26 #[.int .u64 (limb T 0), .int .u64 (limb T 1), .int .u64 (limb T 2), .int .u64 (limb T 3)]
  replace B := BW_alloc (BW_on B hb6) (.cells #[.int .u64 (limb T 0), .int .u64 (limb T 1), .int .u64 (limb T 2), .int .u64 (limb T 3)] 26)
  have ca := fun i => ka.cell i
  have cb := fun i => kb.cell i
  go_wp2_with fail
  refine (Hrt.out _).mono ?_
  rintro e w7 ⟨rfl, hb7⟩
  clear ca cb
  replace ka := ka.step hb7 (.cells #[.int .u64 (limb T 0), .int .u64 (limb T 1), .int .u64 (limb T 2), .int .u64 (limb T 3)] 26)
  replace kb := kb.step hb7 (.cells #[.int .u64 (limb T 0), .int .u64 (limb T 1), .int .u64 (limb T 2), .int .u64 (limb T 3)] 26)
  replace ks := ks.step hb7 (.cells #[.int .u64 (limb T 0), .int .u64 (limb T 1), .int .u64 (limb T 2), .int .u64 (limb T 3)] 26)
  replace kt := kt.step hb7 (.cells #[.int .u64 (limb T 0), .int .u64 (limb T 1), .int .u64 (limb T 2), .int .u64 (limb T 3)] 26)
  replace ku := ku.step hb7 (.cells #[.int .u64 (limb T 0), .int .u64 (limb T 1), .int .u64 (limb T 2), .int .u64 (limb T 3)] 26)
  replace kv := kv.step hb7 (.cells #[.int .u64 (limb T 0), .int .u64 (limb T 1), .int .u64 (limb T 2), .int .u64 (limb T 3)] 26)
  replace kx := kx.step hb7 (.cells #[.int .u64 (limb T 0), .int .u64 (limb T 1), .int .u64 (limb T 2), .int .u64 (limb T 3)] 26)
  have ky := Blk.new w7 26 #[.int .u64 (limb T 0), .int .u64 (limb T 1), .int .u64 (limb T 2), .int .u64 (limb T 3)]
  replace B := BW_alloc (BW_on B hb7) (.cells #[.int .u64 (limb T 0), .int .u64 (limb T 1), .int .u64 (limb T 2), .int .u64 (limb T 3)] 26)
  have ca := fun i => ka.cell i
  have cb := fun i => kb.cell i
  clear ca cb
  replace ka := (((ka.alloc (.cells #[.int .u64 0, .int .u64 0, .int .u64 0, .int .u64 0] 26)).alloc (.cells #[.int .u64 (n : Int), .int .u64 0, .int .u64 0, .int .u64 0] 26)).held)
  replace kb := (((kb.alloc (.cells #[.int .u64 0, .int .u64 0, .int .u64 0, .int .u64 0] 26)).alloc (.cells #[.int .u64 (n : Int), .int .u64 0, .int .u64 0, .int .u64 0] 26)).held)
  replace ks := (((ks.alloc (.cells #[.int .u64 0, .int .u64 0, .int .u64 0, .int .u64 0] 26)).alloc (.cells #[.int .u64 (n : Int), .int .u64 0, .int .u64 0, .int .u64 0] 26)).held)
  replace kt := (((kt.alloc (.cells #[.int .u64 0, .int .u64 0, .int .u64 0, .int .u64 0] 26)).alloc (.cells #[.int .u64 (n : Int), .int .u64 0, .int .u64 0, .int .u64 0] 26)).held)
  replace ku := (((ku.alloc (.cells #[.int .u64 0, .int .u64 0, .int .u64 0, .int .u64 0] 26)).alloc (.cells #[.int .u64 (n : Int), .int .u64 0, .int .u64 0, .int .u64 0] 26)).held)
  replace kv := (((kv.alloc (.cells #[.int .u64 0, .int .u64 0, .int .u64 0, .int .u64 0] 26)).alloc (.cells #[.int .u64 (n : Int), .int .u64 0, .int .u64 0, .int .u64 0] 26)).held)
  replace kx := (((kx.alloc (.cells #[.int .u64 0, .int .u64 0, .int .u64 0, .int .u64 0] 26)).alloc (.cells #[.int .u64 (n : Int), .int .u64 0, .int .u64 0, .int .u64 0] 26)).held)
  replace ky := (((ky.alloc (.cells #[.int .u64 0, .int .u64 0, .int .u64 0, .int .u64 0] 26)).alloc (.cells #[.int .u64 (n : Int), .int .u64 0, .int .u64 0, .int .u64 0] 26)).held)
  have kz := ((blk2 w7 (.cells #[.int .u64 (limb T 0), .int .u64 (limb T 1), .int .u64 (limb T 2), .int .u64 (limb T 3)] 26) 26 #[.int .u64 0, .int .u64 0, .int .u64 0, .int .u64 0]).alloc (.cells #[.int .u64 (n : Int), .int .u64 0, .int .u64 0, .int .u64 0] 26)).held
  have ko := (blk3 w7 (.cells #[.int .u64 (limb T 0), .int .u64 (limb T 1), .int .u64 (limb T 2), .int .u64 (limb T 3)] 26) (.cells #[.int .u64 0, .int .u64 0, .int .u64 0, .int .u64 0] 26) 26 #[.int .u64 (n : Int), .int .u64 0, .int .u64 0, .int .u64 0]).held
  replace B := BW_alloc (BW_alloc B (.cells #[.int .u64 0, .int .u64 0, .int .u64 0, .int .u64 0] 26)) (.cells #[.int .u64 (n : Int), .int .u64 0, .int .u64 0, .int .u64 0] 26)
  go_wp2_with fail
  generalize hW : ((w7.alloc (.cells #[.int .u64 (limb T 0), .int .u64 (limb T 1), .int .u64 (limb T 2), .int .u64 (limb T 3)] 26)).alloc (.cells #[.int .u64 0, .int .u64 0, .int .u64 0, .int .u64 0] 26)).alloc (.cells #[.int .u64 (n : Int), .int .u64 0, .int .u64 0, .int .u64 0] 26) = W at *
  clear hW hb1 hb2 hb3 hb4 hb5 hb6 hb7 Hadd Hra Hs Hrs Ht Hrt
  have hE := He.out
  have hE0 := He0.out
  clear He He0
  have B := Lib.hid B
  go_region_held3 (fun w' => Below W.heap.size W w')
    ((first | exact (Below.refl _ _).drew | assumption | ((refine BW_on ?_ (by assumption)); assumption)))
    (first | (go_at_call 24; refine (Hcmp.out _).mono ?_; rintro e wc1 ⟨rfl, hd1⟩) | (go_at_call 27; refine (Hrc.out _).mono ?_; rintro e wc2 ⟨rfl, hd2⟩) | (go_at_call 28; refine (Hz.out _).mono ?_; rintro e wc3 ⟨rfl, hd3⟩) | (go_at_call 18; refine (Hof.out _).mono ?_; rintro e wc4 ⟨rfl, hd4⟩))
  all_goals (go_wp2_with fail; go_ret; exact ⟨rfl, BW_on B.out (by assumption)⟩)
set_option maxRecDepth 100000 in
theorem counts_lifted (os : Os) (started : os.Started) (H : Type) (enc : TypeId × Value → H) :
    ReturnsInHanded {} Try.checked os 9 .any (Rows.wideCountsSpec.pre6 enc Try.prog Try.f9 Rows.wideCountsRow.domain false) (Rows.wideCountsSpec.post enc Try.prog Try.f9 false true false false) := by
  refine law_lifted (C := Try.checked) (tb := 4) (by kernel_rfl) started (by kernel_rfl) Try.func9
    (ChangeSpec.witness6 (enc := enc) (C := Try.checked) false ⟨#[], #[.agg #[.int .u64 0, .int .u64 0, .int .u64 0, .int .u64 0], .agg #[.int .u64 0, .int .u64 0, .int .u64 0, .int .u64 0], .int .u64 0], []⟩ 8 (by kernel_rfl) (by kernel_rfl) (by kernel_rfl) (by kernel_rfl))
    laidOut (by kernel_rfl) (by kernel_rfl) Try.underlying4 rfl ?_ ?_
  · intro ds hd
    have hp : Try.f9.params.toList.length = 3 := by kernel_rfl
    rw [hp] at hd
    match ds, hd with
    | [d, d', d''], _ => rfl
  · intro W base args ds ps hval hA _ _
    have hval' : ∀ (j : Nat) t v, Try.f9.params[j]? = some t → args[j]? = some v → Value.okWide Try.prog W .any base t v := hval
    have hA' : DataW.TrodAll enc Try.prog W 0 (fun _ => true) true Try.f9.params.toList args.toList ds ps := hA
    rw [Try.params9] at hA' hval'
    obtain ⟨v0, v1, v2, d0, d1, d2, p0, p1, p2, rfl, rfl, rfl, h0, h1, h2⟩ := trodAll_three hA'
    obtain ⟨N, hN, rfl⟩ := wide_args (hval' 0 26 v0 rfl rfl) h0
    obtain ⟨M, hM, rfl⟩ := wide_args (hval' 1 26 v1 rfl rfl) h1
    obtain ⟨z, rfl, _, _, hz⟩ := open_int Try.underlying24 (hval' 2 24 v2 rfl rfl) h2
    obtain ⟨n, rfl, hn⟩ := u64_nat hz
    exact counts_walk N M n hN hM hn W
theorem WideCounts_holds : Rows.WideCountsSaid :=
  OpenClaim.holds_of_wide 9 Try.f9 rfl rfl rfl rfl rfl rfl rfl ⟨rfl, rfl, rfl, rfl, rfl⟩ rfl rfl rfl rfl rfl (by kernel_rfl) Try.func9 (by kernel_rfl)
    (of_decide_eq_true (by kernel_rfl)) (by unfold Func.isWrapper; first | (rw [if_pos (by decide +kernel)]; kernel_rfl) | (rw [if_neg (by decide +kernel)]; exact ⟨rfl, rfl⟩))
    (fun os started H enc _ => counts_lifted os started H enc)
end Go.Proofs.Ytibemleodghhfaa

/- The law WideTimes: a product with a sum is the sum of the products, and a number's part of its product is it; for every input. -/
import Derived.Test.YtibemleodghhfaaK2
import Derived.Test.YtibemleodghhfaaP3
import Derived.Deep.RegionWith
import Derived.Deep.RegionHeld3
import Derived.Outline
namespace Go.Proofs.Ytibemleodghhfaa
open Go.RowKit Go.ChangeShapes Go.WideShapes
attribute [local go_sem ↓] Go.wp_at_zero Go.wp_at_succ
theorem Blk.step {w w' : World} {g : Nat} {t : TypeId} {cs : Array Value} (h : Blk w g t cs) (hb : Below w.heap.size w w') (o : Obj) : Blk (w'.alloc o) g t cs := (h.below hb h.lt).alloc o
set_option maxHeartbeats 2000000 in
set_option maxRecDepth 100000 in
theorem times_gen (N n m X Y S T : Nat) (i k j l : Bool) (hN : W256 N) (q0 q1 : Int) (hq0 : Int.tmod q0 1000 = (n : Int)) (hq1 : Int.tmod q1 1000 = (m : Int)) (hnm : IntKind.u64.wrap ((n : Int) + (m : Int)) = ((n + m : Nat) : Int)) (hS : W256 S) (hT : W256 T)
    (Hx : Hid (∀ w, Calls Try.prog 20 #[.agg #[.int .u64 (limb N 0), .int .u64 (limb N 1), .int .u64 (limb N 2), .int .u64 (limb N 3)], .int .u64 (n : Int)] w fun e w' => e = .returned (.tuple #[.agg #[.int .u64 (limb X 0), .int .u64 (limb X 1), .int .u64 (limb X 2), .int .u64 (limb X 3)], .bool i]) ∧ Below w.heap.size w w'))
    (Hy : Hid (∀ w, Calls Try.prog 20 #[.agg #[.int .u64 (limb N 0), .int .u64 (limb N 1), .int .u64 (limb N 2), .int .u64 (limb N 3)], .int .u64 (m : Int)] w fun e w' => e = .returned (.tuple #[.agg #[.int .u64 (limb Y 0), .int .u64 (limb Y 1), .int .u64 (limb Y 2), .int .u64 (limb Y 3)], .bool k]) ∧ Below w.heap.size w w'))
    (Hs : Hid (∀ w, Calls Try.prog 21 #[.agg #[.int .u64 (limb X 0), .int .u64 (limb X 1), .int .u64 (limb X 2), .int .u64 (limb X 3)], .agg #[.int .u64 (limb Y 0), .int .u64 (limb Y 1), .int .u64 (limb Y 2), .int .u64 (limb Y 3)]] w fun e w' => e = .returned (.tuple #[.agg #[.int .u64 (limb S 0), .int .u64 (limb S 1), .int .u64 (limb S 2), .int .u64 (limb S 3)], .bool j]) ∧ Below w.heap.size w w'))
    (Ht : Hid (∀ w, Calls Try.prog 20 #[.agg #[.int .u64 (limb N 0), .int .u64 (limb N 1), .int .u64 (limb N 2), .int .u64 (limb N 3)], .int .u64 ((n + m : Nat) : Int)] w fun e w' => e = .returned (.tuple #[.agg #[.int .u64 (limb T 0), .int .u64 (limb T 1), .int .u64 (limb T 2), .int .u64 (limb T 3)], .bool l]) ∧ Below w.heap.size w w'))
    (Hp : Hid (i = true → 0 < n → ∀ w, Calls Try.prog 15 #[.agg #[.int .u64 (limb X 0), .int .u64 (limb X 1), .int .u64 (limb X 2), .int .u64 (limb X 3)], .int .u64 (n : Int)] w fun e w' => e = .returned (.tuple #[.agg #[.int .u64 (limb N 0), .int .u64 (limb N 1), .int .u64 (limb N 2), .int .u64 (limb N 3)], .int .u64 0]) ∧ Below w.heap.size w w'))
    (h1 : i = true → k = true → j = l ∧ S = T) (h2 : l = true → i = true ∧ k = true) (w : World) :
    Calls Try.prog 6 #[.agg #[.int .u64 (limb N 0), .int .u64 (limb N 1), .int .u64 (limb N 2), .int .u64 (limb N 3)], .agg #[.int .u64 q0, .int .u64 q1]] w fun e w' => e = .returned (.bool true) ∧ Below w.heap.size w w' := by
  have He := Lib.hid (eqWide S T hS hT)
  have HeN := Lib.hid (eqWide N N hN hN)
  clear hS hT hN
  have H1 := Lib.hid h1
  have H2 := Lib.hid h2
  clear h1 h2
  go_enter Try.func6, Try.ntmps6
  go_wp2_with fail
  refine (awake04 _).mono ?_
  rintro e w1 ⟨rfl, hb1⟩
  have ka := (blk1 w 26 #[.int .u64 (limb N 0), .int .u64 (limb N 1), .int .u64 (limb N 2), .int .u64 (limb N 3)]).alloc (.cells #[.int .u64 q0, .int .u64 q1] 43)
  have kq := blk2 w (.cells #[.int .u64 (limb N 0), .int .u64 (limb N 1), .int .u64 (limb N 2), .int .u64 (limb N 3)] 26) 43 #[.int .u64 q0, .int .u64 q1]
  replace ka := ka.below hb1 ka.lt
  replace kq := kq.below hb1 kq.lt
  have B := BW_on (BW_alloc (BW_alloc (Below.refl _ _) _) _) hb1
  have ca := fun i => ka.cell i
  have cq := fun i => kq.cell i
  go_wp2_with fail
  refine (Hx.out _).mono ?_
  rintro e w2 ⟨rfl, hb2⟩
  clear ca cq kq
  replace ka := ka.step hb2 (.cells #[.int .u64 (limb X 0), .int .u64 (limb X 1), .int .u64 (limb X 2), .int .u64 (limb X 3)] 26)
  have kx := Blk.new w2 26 #[.int .u64 (limb X 0), .int .u64 (limb X 1), .int .u64 (limb X 2), .int .u64 (limb X 3)]
  replace B := BW_alloc (BW_on B hb2) (.cells #[.int .u64 (limb X 0), .int .u64 (limb X 1), .int .u64 (limb X 2), .int .u64 (limb X 3)] 26)
  have ca := fun i => ka.cell i
  go_wp2_with fail
  refine (Hy.out _).mono ?_
  rintro e w3 ⟨rfl, hb3⟩
  clear ca
  replace ka := ka.step hb3 (.cells #[.int .u64 (limb Y 0), .int .u64 (limb Y 1), .int .u64 (limb Y 2), .int .u64 (limb Y 3)] 26)
  replace kx := kx.step hb3 (.cells #[.int .u64 (limb Y 0), .int .u64 (limb Y 1), .int .u64 (limb Y 2), .int .u64 (limb Y 3)] 26)
  have ky := Blk.new w3 26 #[.int .u64 (limb Y 0), .int .u64 (limb Y 1), .int .u64 (limb Y 2), .int .u64 (limb Y 3)]
  replace B := BW_alloc (BW_on B hb3) (.cells #[.int .u64 (limb Y 0), .int .u64 (limb Y 1), .int .u64 (limb Y 2), .int .u64 (limb Y 3)] 26)
  have cx := fun i => kx.cell i
  have cy := fun i => ky.cell i
  go_wp2_with fail
  refine (Hs.out _).mono ?_
  rintro e w4 ⟨rfl, hb4⟩
  clear cx cy ky
  replace ka := ka.step hb4 (.cells #[.int .u64 (limb S 0), .int .u64 (limb S 1), .int .u64 (limb S 2), .int .u64 (limb S 3)] 26)
  replace kx := kx.step hb4 (.cells #[.int .u64 (limb S 0), .int .u64 (limb S 1), .int .u64 (limb S 2), .int .u64 (limb S 3)] 26)
  have ks := Blk.new w4 26 #[.int .u64 (limb S 0), .int .u64 (limb S 1), .int .u64 (limb S 2), .int .u64 (limb S 3)]
  replace B := BW_alloc (BW_on B hb4) (.cells #[.int .u64 (limb S 0), .int .u64 (limb S 1), .int .u64 (limb S 2), .int .u64 (limb S 3)] 26)
  have ca := fun i => ka.cell i
  go_wp2_with fail
  refine (Ht.out _).mono ?_
  rintro e w5 ⟨rfl, hb5⟩
  clear ca
  replace ka := ka.step hb5 (.cells #[.int .u64 (limb T 0), .int .u64 (limb T 1), .int .u64 (limb T 2), .int .u64 (limb T 3)] 26)
  replace kx := kx.step hb5 (.cells #[.int .u64 (limb T 0), .int .u64 (limb T 1), .int .u64 (limb T 2), .int .u64 (limb T 3)] 26)
  replace ks := ks.step hb5 (.cells #[.int .u64 (limb T 0), .int .u64 (limb T 1), .int .u64 (limb T 2), .int .u64 (limb T 3)] 26)
  have kt := Blk.new w5 26 #[.int .u64 (limb T 0), .int .u64 (limb T 1), .int .u64 (limb T 2), .int .u64 (limb T 3)]
  replace B := BW_alloc (BW_on B hb5) (.cells #[.int .u64 (limb T 0), .int .u64 (limb T 1), .int .u64 (limb T 2), .int .u64 (limb T 3)] 26)
  have ca := fun i => ka.cell i
  have cx := fun i => kx.cell i
  have cs := fun i => ks.cell i
  have ct := fun i => kt.cell i
  have he := He.out
  cases i <;> cases k <;> cases j <;> cases l <;> (try (exact absurd (H2.out rfl).1 (by decide))) <;> (try (exact absurd (H2.out rfl).2 (by decide))) <;> (try (exact absurd (H1.out rfl rfl).1 (by decide)))
  all_goals (try (obtain rfl : S = T := (H1.out rfl rfl).2))
  all_goals
    rcases Nat.eq_zero_or_pos n with h0 | h0
    · have hz : decide ((0 : Int) < (n : Int)) = false := by simp; omega
      have hz2 : ¬ ((0 : Int) < (n : Int)) := by omega
      clear h0
      go_wp2_with fail
      go_ret
      exact ⟨rfl, B⟩
    · have hz : (0 : Int) < (n : Int) := by omega
      first
        | have Hq := Hp.out rfl h0
          clear h0
          go_wp2_with fail
          refine (Hq _).mono ?_
          rintro e w6 ⟨rfl, hb6⟩
          clear ca cx cs ct
          replace ka := ka.step hb6 (.cells #[.int .u64 (limb N 0), .int .u64 (limb N 1), .int .u64 (limb N 2), .int .u64 (limb N 3)] 26)
          have kp := Blk.new w6 26 #[.int .u64 (limb N 0), .int .u64 (limb N 1), .int .u64 (limb N 2), .int .u64 (limb N 3)]
          replace B := BW_alloc (BW_on B hb6) (.cells #[.int .u64 (limb N 0), .int .u64 (limb N 1), .int .u64 (limb N 2), .int .u64 (limb N 3)] 26)
          have ca := fun i => ka.cell i
          have cp := fun i => kp.cell i
          have hE := HeN.out
          go_wp2_with fail
          go_ret
          exact ⟨rfl, B⟩
        | clear h0
          go_wp2_with fail
          go_ret
          exact ⟨rfl, B⟩
theorem ok_W {n : Nat} (h : wOk n = true) : W256 n := of_decide_eq_true (p := n < 256 ^ 32) h
theorem times_walk (N a b : Nat) (hN : W256 N) (w : World) :
    Calls Try.prog 6 #[.agg #[.int .u64 (limb N 0), .int .u64 (limb N 1), .int .u64 (limb N 2), .int .u64 (limb N 3)], .agg #[.int .u64 (a : Int), .int .u64 (b : Int)]] w fun e w' => e = .returned (.bool true) ∧ Below w.heap.size w w' := by
  have hn : a % 1000 < 1000 := Nat.mod_lt _ (by decide)
  have hm : b % 1000 < 1000 := Nat.mod_lt _ (by decide)
  have ha : Int.tmod (a : Int) 1000 = ((a % 1000 : Nat) : Int) := by rw [Int.tmod_eq_emod_of_nonneg (Int.natCast_nonneg a)]; rfl
  have hb : Int.tmod (b : Int) 1000 = ((b % 1000 : Nat) : Int) := by rw [Int.tmod_eq_emod_of_nonneg (Int.natCast_nonneg b)]; rfl
  generalize a % 1000 = n at *
  generalize b % 1000 = m at *
  have hw : IntKind.u64.wrap ((n : Int) + (m : Int)) = ((n + m : Nat) : Int) := by rw [IntKind.wrap_u64]; omega
  have hn' : n < 18446744073709551616 := by omega
  have hm' : m < 18446744073709551616 := by omega
  have hnm' : n + m < 18446744073709551616 := by omega
  refine times_gen N n m (wN (N * n)) (wN (N * m)) (wN (wN (N * n) + wN (N * m))) (wN (N * (n + m))) (wOk (N * n)) (wOk (N * m)) (wOk (wN (N * n) + wN (N * m))) (wOk (N * (n + m))) hN a b ha hb hw (W256.wN _) (W256.wN _)
    (Lib.hid (times_any N n hN hn')) (Lib.hid (times_any N m hN hm')) (Lib.hid (add_any _ _ (W256.wN _) (W256.wN _))) (Lib.hid (times_any N (n + m) hN hnm')) (Lib.hid ?_) ?_ ?_ w
  · intro hi h0
    have hX : W256 (N * n) := ok_W hi
    intro w
    have h := part_yes (wN (N * n)) n (W256.wN _) h0 hn' w
    have e1 : wN (N * n) / n = N := by rw [wN_of hX]; exact Nat.mul_div_cancel N h0
    have e2 : wN (N * n) % n = 0 := by rw [wN_of hX]; exact Nat.mul_mod_left _ _
    rw [e1, e2] at h
    exact h
  · intro hi hk
    have hX : W256 (N * n) := ok_W hi
    have hY : W256 (N * m) := ok_W hk
    rw [wN_of hX, wN_of hY, Nat.mul_add]
    exact ⟨rfl, rfl⟩
  · intro hl
    have hT : W256 (N * (n + m)) := ok_W hl
    rw [Nat.mul_add] at hT
    have hX : W256 (N * n) := Nat.lt_of_le_of_lt (Nat.le_add_right _ _) hT
    have hY : W256 (N * m) := Nat.lt_of_le_of_lt (Nat.le_add_left _ _) hT
    exact ⟨wOk_of hX, wOk_of hY⟩
set_option maxRecDepth 100000 in
theorem times_lifted (os : Os) (started : os.Started) (H : Type) (enc : TypeId × Value → H) :
    ReturnsInHanded {} Try.checked os 6 .any (Rows.wideTimesSpec.pre6 enc Try.prog Try.f6 Rows.wideTimesRow.domain false) (Rows.wideTimesSpec.post enc Try.prog Try.f6 false true false false) := by
  refine law_lifted (C := Try.checked) (tb := 4) (by kernel_rfl) started (by kernel_rfl) Try.func6
    (ChangeSpec.witness6 (enc := enc) (C := Try.checked) false ⟨#[], #[.agg #[.int .u64 0, .int .u64 0, .int .u64 0, .int .u64 0], .agg #[.int .u64 0, .int .u64 0]], []⟩ 8 (by kernel_rfl) (by kernel_rfl) (by kernel_rfl) (by kernel_rfl))
    laidOut (by kernel_rfl) (by kernel_rfl) Try.underlying4 rfl ?_ ?_
  · intro ds hd
    have hp : Try.f6.params.toList.length = 2 := by kernel_rfl
    rw [hp] at hd
    match ds, hd with
    | [d, d'], _ => rfl
  · intro W base args ds ps hval hA _ _
    have hval' : ∀ (j : Nat) t v, Try.f6.params[j]? = some t → args[j]? = some v → Value.okWide Try.prog W .any base t v := hval
    have hA' : DataW.TrodAll enc Try.prog W 0 (fun _ => true) true Try.f6.params.toList args.toList ds ps := hA
    rw [Try.params6] at hA' hval'
    obtain ⟨v0, v1, d0, d1, p0, p1, rfl, rfl, rfl, h0, h1⟩ := trodAll_two hA'
    obtain ⟨N, hN, rfl⟩ := wide_args (hval' 0 26 v0 rfl rfl) h0
    obtain ⟨zs, hz, rfl, hw⟩ := open_ints_array Try.underlying43 Try.underlying24 (by kernel_rfl) (by kernel_rfl) (hval' 1 43 v1 rfl rfl) h1
    match zs, hz, hw with
    | [a, b], _, hw =>
      obtain ⟨a, rfl, _⟩ := u64_nat (hw a (by simp))
      obtain ⟨b, rfl, _⟩ := u64_nat (hw b (by simp))
      exact times_walk N a b hN W
theorem WideTimes_holds : Rows.WideTimesSaid :=
  OpenClaim.holds_of_wide 6 Try.f6 rfl rfl rfl rfl rfl rfl rfl ⟨rfl, rfl, rfl, rfl, rfl⟩ rfl rfl rfl rfl rfl (by kernel_rfl) Try.func6 (by kernel_rfl)
    (of_decide_eq_true (by kernel_rfl)) (by unfold Func.isWrapper; first | (rw [if_pos (by decide +kernel)]; kernel_rfl) | (rw [if_neg (by decide +kernel)]; exact ⟨rfl, rfl⟩))
    (fun os started H enc _ => times_lifted os started H enc)
end Go.Proofs.Ytibemleodghhfaa

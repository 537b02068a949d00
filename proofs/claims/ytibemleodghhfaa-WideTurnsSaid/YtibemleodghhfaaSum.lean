/- wide.Sum: the sum of a row of numbers, or none once it is too great. -/
import Derived.Test.YtibemleodghhfaaK2
import Derived.Test.YtibemleodghhfaaP3
namespace Go.Proofs.Ytibemleodghhfaa
open Go.RowKit Go.ChangeShapes Go.WideShapes
attribute [local go_sem ↓] Go.wp_at_zero Go.wp_at_succ
/-- What adding one by one comes to. -/
def sumR : Nat → List Nat → Nat × Bool
  | c, [] => (c, true)
  | c, a :: l => if wOk (c + a) then sumR (c + a) l else (0, false)
theorem sumR_cons (c a : Nat) (l : List Nat) : sumR c (a :: l) = if wOk (c + a) then sumR (c + a) l else (0, false) := rfl
theorem ok_Wd {n : Nat} (h : wOk n = true) : W256 n := of_decide_eq_true (p := n < 256 ^ 32) h
set_option maxHeartbeats 1000000 in
theorem sum_any (Ns : List Nat) (g off cap : Nat) (hW : ∀ x ∈ Ns, W256 x) (w : World) (hg : g < w.heap.size) (hl : Ns.length ≤ 1000)
    (hc : ∀ k (hk : k < Ns.length), ∀ i, i < 4 → w.cell? ⟨g, off + k * 4 + i, none⟩ = some (.int .u64 (limb Ns[k] i))) :
    Calls Try.prog 19 #[.slice (some ⟨g, off, none⟩) Ns.length cap] w fun e w' => e = .returned (.tuple #[.agg #[.int .u64 (limb (sumR 0 Ns).1 0), .int .u64 (limb (sumR 0 Ns).1 1), .int .u64 (limb (sumR 0 Ns).1 2), .int .u64 (limb (sumR 0 Ns).1 3)], .bool (sumR 0 Ns).2]) ∧ Below w.heap.size w w' := by
  have Hc := Lib.hid hc
  have HW := Lib.hid hW
  clear hc hW
  go_enter Try.func19, Try.ntmps19
  go_wp2
  go_loopw [10] (fun i wr => ∃ (k c : Nat), k ≤ Ns.length ∧ i = .int .i64 (k : Int) ∧ W256 c ∧ Hid (sumR 0 Ns = sumR c (Ns.drop k)) ∧ Blk wr w.heap.size 26 #[.int .u64 0, .int .u64 0, .int .u64 0, .int .u64 0] ∧ Blk wr (w.heap.size + 1) 26 (wcells c) ∧ Below w.heap.size w wr) (fun i _ => Ns.length - (intOf i).toNat)
  case atStart => exact ⟨0, 0, Nat.zero_le _, rfl, W256.zero, rfl, (blk1 w _ _).alloc _, by
    have h := blk2 w (.cells #[.int .u64 0, .int .u64 0, .int .u64 0, .int .u64 0] 26) 26 (wcells 0)
    exact h, BW_alloc (BW_alloc (Below.refl _ _) _) _⟩
  case round =>
    obtain ⟨k, c, hk, rfl, hcW, hinv, hz, hout, hb⟩ := hrel
    by_cases hlt : k < Ns.length
    · have hx : ∀ i, i < 4 → _ := fun i hi => (hb.cell (p := ⟨g, off + k * 4 + i, none⟩) hg).trans (Hc.out k hlt i hi)
      have hk0 : (0 : Int) ≤ (k : Int) := by omega
      have hk1 : (k : Int) < (Ns.length : Int) := by omega
      have h0 : wr.cell? ⟨g, off + k * 4, none⟩ = some (.int .u64 (limb Ns[k] 0)) := hx 0 (by decide)
      have h1 := hx 1 (by decide)
      have h2 := hx 2 (by decide)
      have h3 := hx 3 (by decide)
      have hd : sumR c (Ns.drop k) = sumR c (Ns[k] :: Ns.drop (k + 1)) := by rw [List.drop_eq_getElem_cons hlt]
      rw [sumR_cons] at hd
      have hA : W256 Ns[k] := HW.out _ (List.getElem_mem hlt)
      generalize Ns[k] = a at *
      have Hadd := Lib.hid (add_any c a hcW hA)
      have kout := (hout.alloc (.cells #[.int .u64 (limb a 0), .int .u64 (limb a 1), .int .u64 (limb a 2), .int .u64 (limb a 3)] 26))
      have co := fun i => kout.cell i
      unfold wcells at co
      have Hd := Lib.hid hd
      clear hx hd
      have hsum : wOk (c + a) = true ∨ wOk (c + a) = false := by cases wOk (c + a) <;> simp
      have HS := Lib.hid hsum
      clear hsum
      go_wp2_with fail
      refine (Hadd.out _).mono ?_
      rintro e w1 ⟨rfl, hb1⟩
      have kout1 := kout.below hb1 kout.lt
      have kz1 := (hz.alloc (.cells #[.int .u64 (limb a 0), .int .u64 (limb a 1), .int .u64 (limb a 2), .int .u64 (limb a 3)] 26))
      replace kz1 := kz1.below hb1 kz1.lt
      have hB1 := BW_on (BW_alloc hb (.cells #[.int .u64 (limb a 0), .int .u64 (limb a 1), .int .u64 (limb a 2), .int .u64 (limb a 3)] 26)) hb1
      unfold wcells at kout1
      have co1 := fun i => kout1.cell i
      have fo1 := fun i => kout1.free i
      have fz1 := fun i => kz1.free i
      have cz1 := fun i => kz1.cell i
      clear co h0 h1 h2 h3
      rcases HS.out with hT | hF
      · have hd' : sumR c (Ns.drop k) = sumR (c + a) (Ns.drop (k + 1)) := Hd.out.trans (if_pos hT)
        have hw : wN (c + a) = c + a := wN_of (ok_Wd hT)
        rw [hT, hw]
        have Hd' := Lib.hid hd'
        have HT := Lib.hid hT
        clear hd' hw hT
        go_wp2_with fail
        go_roundw
        case rel => exact ⟨k + 1, c + a, by omega, by go_num, ok_Wd HT.out, hinv.out.trans Hd'.out, (((kz1.off (by simp) _).off (by simp) _).off (by simp) _).off (by simp) _, kout1.store4 _ _ _ _, below_store4 hB1 (by omega) _ _ _ _⟩
        case measure => simp [intOf]; omega
      · have hd' : sumR c (Ns.drop k) = (0, false) := Hd.out.trans (if_neg (by rw [hF]; decide))
        have hw : sumR 0 Ns = (0, false) := hinv.out.trans hd'
        have Hw := Lib.hid hw
        rw [hF]
        clear hF hd' hw
        go_wp2
        have kz2 := (((kz1.off (p := ⟨w.heap.size + 1, 0, none⟩) (by simp) (.int .u64 (limb (wN (c + a)) 0))).off (p := ⟨w.heap.size + 1, 1, none⟩) (by simp) (.int .u64 (limb (wN (c + a)) 1))).off (p := ⟨w.heap.size + 1, 2, none⟩) (by simp) (.int .u64 (limb (wN (c + a)) 2))).off (p := ⟨w.heap.size + 1, 3, none⟩) (by simp) (.int .u64 (limb (wN (c + a)) 3))
        have hcc := fun i => (kz2.store4 (.int .u64 0) (.int .u64 0) (.int .u64 0) (.int .u64 0)).cell i
        refine bodyPost_ret (v := .tuple #[.agg #[.int .u64 0, .int .u64 0, .int .u64 0, .int .u64 0], .bool false]) (by simp [results, Try.results19, go_sem, hcc]) rfl ⟨by rw [Hw.out]; simp [limb], below_store4 (below_store4 hB1 (by omega) _ _ _ _) (by omega) _ _ _ _⟩
    · obtain rfl : k = Ns.length := by omega
      have hd : sumR 0 Ns = (c, true) := by
        have := hinv.out
        rw [List.drop_length] at this
        exact this
      have Hw := Lib.hid hd
      clear hd hinv
      have co := fun i => hout.cell i
      have fz := fun i => hz.free i
      have cz := fun i => hz.cell i
      unfold wcells at co
      go_wp2
      have hcc := fun i => (hz.store4 (.int .u64 (limb c 0)) (.int .u64 (limb c 1)) (.int .u64 (limb c 2)) (.int .u64 (limb c 3))).cell i
      refine bodyPost_ret (v := .tuple #[.agg #[.int .u64 (limb c 0), .int .u64 (limb c 1), .int .u64 (limb c 2), .int .u64 (limb c 3)], .bool true]) (by simp [results, Try.results19, go_sem, hcc]) rfl ⟨by rw [Hw.out], below_store4 hb (by omega) _ _ _ _⟩
end Go.Proofs.Ytibemleodghhfaa

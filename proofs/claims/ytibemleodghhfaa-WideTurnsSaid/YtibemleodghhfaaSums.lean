/- The law WideSums: the sum of all is what adding one by one comes to; once it is too great, it is none; for every input. -/
import Derived.Test.YtibemleodghhfaaSum
import Derived.Test.YtibemleodghhfaaK2
import Derived.Test.YtibemleodghhfaaP3
import Derived.Deep.RegionWith
import Derived.Deep.Slices
import Derived.Deep.Fields
import Derived.Laws.IdiomArrays
namespace Go.Proofs.Ytibemleodghhfaa
open Go.RowKit Go.ChangeShapes Go.WideShapes
attribute [local go_sem ↓] Go.wp_at_zero Go.wp_at_succ
theorem sum_nil (p : Option Addr) (cap : Nat) (w : World) : Calls Try.prog 19 #[.slice p 0 cap] w fun e w' => e = .returned (.tuple #[.agg #[.int .u64 (limb 0 0), .int .u64 (limb 0 1), .int .u64 (limb 0 2), .int .u64 (limb 0 3)], .bool true]) ∧ Below w.heap.size w w' := by
  go_enter Try.func19, Try.ntmps19
  go_wp2
  go_loopw [10] (fun i wr => i = .int .i64 0 ∧ Blk wr w.heap.size 26 #[.int .u64 0, .int .u64 0, .int .u64 0, .int .u64 0] ∧ Blk wr (w.heap.size + 1) 26 #[.int .u64 0, .int .u64 0, .int .u64 0, .int .u64 0] ∧ Below w.heap.size w wr) (fun i _ => 0)
  case atStart => exact ⟨rfl, (blk1 w _ _).alloc _, blk2 w (.cells #[.int .u64 0, .int .u64 0, .int .u64 0, .int .u64 0] 26) 26 #[.int .u64 0, .int .u64 0, .int .u64 0, .int .u64 0], BW_alloc (BW_alloc (Below.refl _ _) _) _⟩
  case round =>
    obtain ⟨rfl, hz, hout, hb⟩ := hrel
    have co := fun i => hout.cell i
    have fz := fun i => hz.free i
    have cz := fun i => hz.cell i
    go_wp2
    have hcc := fun i => (hz.store4 (.int .u64 0) (.int .u64 0) (.int .u64 0) (.int .u64 0)).cell i
    refine bodyPost_ret (v := .tuple #[.agg #[.int .u64 0, .int .u64 0, .int .u64 0, .int .u64 0], .bool true]) (by simp [results, Try.results19, go_sem, hcc]) rfl ⟨by simp [limb], below_store4 hb (by omega) _ _ _ _⟩
theorem sum_m (Ns : List Nat) (m g off cap : Nat) (hl : Ns.length = m) (hW : ∀ x ∈ Ns, W256 x) (w : World) (hg : g < w.heap.size) (hm : m ≤ 1000)
    (hc : ∀ k (hk : k < Ns.length), ∀ i, i < 4 → w.cell? ⟨g, off + k * 4 + i, none⟩ = some (.int .u64 (limb Ns[k] i))) :
    Calls Try.prog 19 #[.slice (some ⟨g, off, none⟩) m cap] w fun e w' => e = .returned (.tuple #[.agg #[.int .u64 (limb (sumR 0 Ns).1 0), .int .u64 (limb (sumR 0 Ns).1 1), .int .u64 (limb (sumR 0 Ns).1 2), .int .u64 (limb (sumR 0 Ns).1 3)], .bool (sumR 0 Ns).2]) ∧ Below w.heap.size w w' := by
  subst hl
  exact sum_any Ns g off cap hW w hg hm hc
def Sofar (Ns : List Nat) (k c : Nat) (b : Bool) : Prop := (b = true ∧ W256 c ∧ sumR 0 Ns = sumR c (Ns.drop k)) ∨ (b = false ∧ c = 0 ∧ sumR 0 Ns = (0, false))
theorem Sofar.start (Ns : List Nat) : Sofar Ns 0 0 true := .inl ⟨rfl, W256.zero, rfl⟩
theorem Sofar.step {Ns : List Nat} {k c : Nat} (h : Sofar Ns k c true) (hk : k < Ns.length) : Sofar Ns (k + 1) (wN (c + Ns[k])) (wOk (c + Ns[k])) := by
  rcases h with ⟨_, hc, h⟩ | ⟨h, _⟩
  · rw [List.drop_eq_getElem_cons hk, sumR_cons] at h
    cases hs : wOk (c + Ns[k]) with
    | true =>
      rw [hs, if_pos rfl] at h
      exact .inl ⟨rfl, W256.wN _, by rw [wN_of (ok_Wd hs)]; exact h⟩
    | false =>
      rw [hs, if_neg (by decide)] at h
      exact .inr ⟨rfl, by unfold wN; unfold wOk at hs; rw [if_neg (by simpa using hs)], h⟩
  · cases h
theorem Sofar.W {Ns : List Nat} {k c : Nat} {b : Bool} (h : Sofar Ns k c b) : W256 c := by
  rcases h with ⟨_, h, _⟩ | ⟨_, rfl, _⟩
  · exact h
  · exact W256.zero
theorem Sofar.done {Ns : List Nat} {c : Nat} {b : Bool} (h : Sofar Ns Ns.length c b) : sumR 0 Ns = (c, b) := by
  rcases h with ⟨rfl, _, h⟩ | ⟨rfl, rfl, h⟩
  · rw [List.drop_length] at h; exact h
  · exact h
theorem Sofar.no {Ns : List Nat} {k c : Nat} (h : Sofar Ns k c false) : c = 0 ∧ sumR 0 Ns = (0, false) := by
  rcases h with ⟨h, _⟩ | ⟨_, h⟩
  · cases h
  · exact h
set_option maxHeartbeats 2000000 in
theorem sums_walk (Ns : List Nat) (m L g off cap : Nat) (hl : Ns.length = m) (hW : ∀ x ∈ Ns, W256 x) (hm : (L = m ∧ m ≤ 6) ∨ (m = 6 ∧ 6 < L)) (hL : L ≤ cap) (hcap : cap ≤ 9223372036854775807) (w : World) (hg : g < w.heap.size)
    (hc : ∀ k (hk : k < Ns.length), ∀ i, i < 4 → w.cell? ⟨g, off + k * 4 + i, none⟩ = some (.int .u64 (limb Ns[k] i))) :
    Calls Try.prog 5 #[.slice (some ⟨g, off, none⟩) L cap] w fun e w' => e = .returned (.bool true) ∧ Below w.heap.size w w' := by
  have Hc := Lib.hid hc
  have HW := Lib.hid hW
  have Hl := Lib.hid hl
  clear hc hW hl
  rcases hm with ⟨rfl, hm⟩ | ⟨rfl, hm⟩
  · have hd6 : decide ((6 : Int) < (L : Int)) = false := by simp; omega
    go_enter Try.func5, Try.ntmps5
    go_wp2_with fail
    refine (awake04 _).mono ?_
    rintro e w1 ⟨rfl, hb1⟩
    go_wp2_with fail
    go_loopw [5, 6] (fun is i wr => ∃ (k c : Nat) (b : Bool), k ≤ L ∧ is = .bool b ∧ i = .int .i64 (k : Int) ∧ Hid (Sofar Ns k c b) ∧ Blk wr w1.heap.size 26 (wcells c) ∧ Below w.heap.size w wr ∧ w1.heap.size < wr.heap.size) (fun _ i _ => L - (intOf i).toNat)
    case atStart => exact ⟨0, 0, true, Nat.zero_le _, rfl, rfl, Sofar.start _, Blk.new w1 26 (wcells 0), BW_alloc hb1 _, by simp⟩
    case round =>
      obtain ⟨k, c, b, hk, rfl, rfl, hs, hout, hb, hz⟩ := hrel
      have hz1 := hb1.size
      by_cases hlt : k < L ∧ b = true
      · obtain ⟨hlt, rfl⟩ := hlt
        have hkl : k < Ns.length := by have := Hl.out; omega
        have hx : ∀ i, i < 4 → _ := fun i hi => (hb.cell (p := ⟨g, off + k * 4 + i, none⟩) hg).trans (Hc.out k hkl i hi)
        have h0 : wr.cell? ⟨g, off + k * 4, none⟩ = some (.int .u64 (limb Ns[k] 0)) := hx 0 (by decide)
        have h1 := hx 1 (by decide)
        have h2 := hx 2 (by decide)
        have h3 := hx 3 (by decide)
        have hA : W256 Ns[k] := HW.out _ (List.getElem_mem hkl)
        have hs' := Lib.hid (hs.out.step hkl)
        have Hadd := Lib.hid (radd_any c Ns[k] hs.out.W hA)
        generalize Ns[k] = a at *
        have hk0 : (0 : Int) ≤ (k : Int) := by omega
        have hk1 : (k : Int) < (L : Int) := by omega
        have co := fun i => hout.cell i
        have fo := fun i => hout.free i
        unfold wcells at hout co
        clear hx hA
        go_wp2_with fail
        go_region_with (go_at_call 17; refine (Hadd.out _).mono ?_; rintro e w2 ⟨rfl, hb2⟩; have hout2 := hout.drew.on hb2; have fo2 := fun i => hout2.free i; have co2 := fun i => hout2.cell i)
        all_goals
          have hB2 := BW_on (hb.drew) hb2
          go_wp2_with fail
          go_roundw
          case rel => exact ⟨k + 1, _, _, by omega, rfl, by go_num, hs', hout2.store4 _ _ _ _, below_store4 hB2 hz1 _ _ _ _, by simp [World.setCell]; have := hb2.size; simp at this; omega⟩
          case measure => simp [intOf]; omega
      · have hcs : ∀ wx, Below w.heap.size w wx → ∀ k (hk : k < Ns.length), ∀ i, i < 4 → wx.cell? ⟨g, off + k * 4 + i, none⟩ = some (.int .u64 (limb Ns[k] i)) := fun wx hb k hkl i hi => (hb.cell (p := ⟨g, off + k * 4 + i, none⟩) hg).trans (Hc.out k hkl i hi)
        obtain ⟨C, hC, hsum⟩ : ∃ C, C = (sumR 0 Ns).1 ∧ b = (sumR 0 Ns).2 ∧ C = c := by
          cases b with
          | false => have := hs.out.no; exact ⟨c, by rw [this.2, this.1], by rw [this.2], rfl⟩
          | true =>
            have e : k = Ns.length := by have := Hl.out; simp at hlt; omega
            subst e
            have := hs.out.done
            exact ⟨c, by rw [this], by rw [this], rfl⟩
        obtain ⟨hb2, rfl⟩ := hsum
        have hs0 := hs.out.W
        have hz0 : b = false → C = 0 := fun h => by subst h; exact hs.out.no.1
        have Hsum := sum_m Ns L g off cap Hl.out HW.out
        rw [← hC, ← hb2] at Hsum
        have Hsum := Lib.hid Hsum
        have Hcs := Lib.hid hcs
        have He := Lib.hid (eqWide C C hs0 hs0)
        have hw := hout
        have co := fun i => hout.cell i
        have fo := fun i => hout.free i
        unfold wcells at hout co
        clear hC hb2 hs hcs hs0
        cases b with
        | false =>
          obtain rfl := hz0 rfl
          clear hz0 hlt
          by_cases hk2 : k < L
          all_goals
            go_wp2_with fail
            have hb' := below_store4 hb hz1 (.int .u64 0) (.int .u64 0) (.int .u64 0) (.int .u64 0)
            have hs4 := hout.store4 (.int .u64 0) (.int .u64 0) (.int .u64 0) (.int .u64 0)
            refine ((Hsum.out _ (by have := hb'.size; omega) (by omega) (Hcs.out _ hb'))).mono ?_
            rintro e w2 ⟨rfl, hb2⟩
            have ko := (hs4.below hb2 hs4.lt).alloc (.cells #[.int .u64 (limb 0 0), .int .u64 (limb 0 1), .int .u64 (limb 0 2), .int .u64 (limb 0 3)] 26)
            have ks := Blk.new w2 26 #[.int .u64 (limb 0 0), .int .u64 (limb 0 1), .int .u64 (limb 0 2), .int .u64 (limb 0 3)]
            have cko := fun i => ko.cell i
            have cks := fun i => ks.cell i
            have he := eqWide0 0 W256.zero
            have ed : (decide ((0:Nat) = 0)) = true := rfl
            rw [ed] at he
            clear co fo
            go_wp2_with fail
            go_ret
            exact ⟨rfl, BW_alloc (BW_on hb' hb2) _⟩
        | true =>
          have hk2 : ¬ (k : Int) < (L : Int) := by simp at hlt; omega
          clear hz0 hlt
          go_wp2_with fail
          refine ((Hsum.out _ (by have := hb.size; omega) (by omega) (Hcs.out _ hb))).mono ?_
          rintro e w2 ⟨rfl, hb2⟩
          have ko := (hout.below hb2 hout.lt).alloc (.cells #[.int .u64 (limb C 0), .int .u64 (limb C 1), .int .u64 (limb C 2), .int .u64 (limb C 3)] 26)
          have ks := Blk.new w2 26 #[.int .u64 (limb C 0), .int .u64 (limb C 1), .int .u64 (limb C 2), .int .u64 (limb C 3)]
          have cko := fun i => ko.cell i
          have cks := fun i => ks.cell i
          have he := He.out
          clear co fo
          go_wp2_with fail
          go_ret
          exact ⟨rfl, BW_alloc (BW_on hb hb2) _⟩
  · have hd6 : decide ((6 : Int) < (L : Int)) = true := by simp; omega
    go_enter Try.func5, Try.ntmps5
    go_wp2_with fail
    refine (awake04 _).mono ?_
    rintro e w1 ⟨rfl, hb1⟩
    go_wp2_with fail
    go_loopw [5, 6] (fun is i wr => ∃ (k c : Nat) (b : Bool), k ≤ 6 ∧ is = .bool b ∧ i = .int .i64 (k : Int) ∧ Hid (Sofar Ns k c b) ∧ Blk wr w1.heap.size 26 (wcells c) ∧ Below w.heap.size w wr ∧ w1.heap.size < wr.heap.size) (fun _ i _ => 6 - (intOf i).toNat)
    case atStart => exact ⟨0, 0, true, Nat.zero_le _, rfl, rfl, Sofar.start _, Blk.new w1 26 (wcells 0), BW_alloc hb1 _, by simp⟩
    case round =>
      obtain ⟨k, c, b, hk, rfl, rfl, hs, hout, hb, hz⟩ := hrel
      have hz1 := hb1.size
      by_cases hlt : k < 6 ∧ b = true
      · obtain ⟨hlt, rfl⟩ := hlt
        have hkl : k < Ns.length := by have := Hl.out; omega
        have hx : ∀ i, i < 4 → _ := fun i hi => (hb.cell (p := ⟨g, off + k * 4 + i, none⟩) hg).trans (Hc.out k hkl i hi)
        have h0 : wr.cell? ⟨g, off + k * 4, none⟩ = some (.int .u64 (limb Ns[k] 0)) := hx 0 (by decide)
        have h1 := hx 1 (by decide)
        have h2 := hx 2 (by decide)
        have h3 := hx 3 (by decide)
        have hA : W256 Ns[k] := HW.out _ (List.getElem_mem hkl)
        have hs' := Lib.hid (hs.out.step hkl)
        have Hadd := Lib.hid (radd_any c Ns[k] hs.out.W hA)
        generalize Ns[k] = a at *
        have hk0 : (0 : Int) ≤ (k : Int) := by omega
        have hk1 : (k : Int) < (6 : Int) := by omega
        have co := fun i => hout.cell i
        have fo := fun i => hout.free i
        unfold wcells at hout co
        clear hx hA
        go_wp2_with fail
        go_region_with (go_at_call 17; refine (Hadd.out _).mono ?_; rintro e w2 ⟨rfl, hb2⟩; have hout2 := hout.drew.on hb2; have fo2 := fun i => hout2.free i; have co2 := fun i => hout2.cell i)
        all_goals
          have hB2 := BW_on (hb.drew) hb2
          go_wp2_with fail
          go_roundw
          case rel => exact ⟨k + 1, _, _, by omega, rfl, by go_num, hs', hout2.store4 _ _ _ _, below_store4 hB2 hz1 _ _ _ _, by simp [World.setCell]; have := hb2.size; simp at this; omega⟩
          case measure => simp [intOf]; omega
      · have hcs : ∀ wx, Below w.heap.size w wx → ∀ k (hk : k < Ns.length), ∀ i, i < 4 → wx.cell? ⟨g, off + k * 4 + i, none⟩ = some (.int .u64 (limb Ns[k] i)) := fun wx hb k hkl i hi => (hb.cell (p := ⟨g, off + k * 4 + i, none⟩) hg).trans (Hc.out k hkl i hi)
        obtain ⟨C, hC, hsum⟩ : ∃ C, C = (sumR 0 Ns).1 ∧ b = (sumR 0 Ns).2 ∧ C = c := by
          cases b with
          | false => have := hs.out.no; exact ⟨c, by rw [this.2, this.1], by rw [this.2], rfl⟩
          | true =>
            have e : k = Ns.length := by have := Hl.out; simp at hlt; omega
            subst e
            have := hs.out.done
            exact ⟨c, by rw [this], by rw [this], rfl⟩
        obtain ⟨hb2, rfl⟩ := hsum
        have hs0 := hs.out.W
        have hz0 : b = false → C = 0 := fun h => by subst h; exact hs.out.no.1
        have Hsum := sum_m Ns 6 g off cap Hl.out HW.out
        rw [← hC, ← hb2] at Hsum
        have Hsum := Lib.hid Hsum
        have Hcs := Lib.hid hcs
        have He := Lib.hid (eqWide C C hs0 hs0)
        have hw := hout
        have co := fun i => hout.cell i
        have fo := fun i => hout.free i
        unfold wcells at hout co
        clear hC hb2 hs hcs hs0
        cases b with
        | false =>
          obtain rfl := hz0 rfl
          clear hz0 hlt
          by_cases hk2 : k < 6
          all_goals
            go_wp2_with fail
            have hb' := below_store4 hb hz1 (.int .u64 0) (.int .u64 0) (.int .u64 0) (.int .u64 0)
            have hs4 := hout.store4 (.int .u64 0) (.int .u64 0) (.int .u64 0) (.int .u64 0)
            refine ((Hsum.out _ (by have := hb'.size; omega) (by omega) (Hcs.out _ hb'))).mono ?_
            rintro e w2 ⟨rfl, hb2⟩
            have ko := (hs4.below hb2 hs4.lt).alloc (.cells #[.int .u64 (limb 0 0), .int .u64 (limb 0 1), .int .u64 (limb 0 2), .int .u64 (limb 0 3)] 26)
            have ks := Blk.new w2 26 #[.int .u64 (limb 0 0), .int .u64 (limb 0 1), .int .u64 (limb 0 2), .int .u64 (limb 0 3)]
            have cko := fun i => ko.cell i
            have cks := fun i => ks.cell i
            have he := eqWide0 0 W256.zero
            have ed : (decide ((0:Nat) = 0)) = true := rfl
            rw [ed] at he
            clear co fo
            go_wp2_with fail
            go_ret
            exact ⟨rfl, BW_alloc (BW_on hb' hb2) _⟩
        | true =>
          have hk2 : ¬ (k : Int) < (6 : Int) := by simp at hlt; omega
          clear hz0 hlt
          go_wp2_with fail
          refine ((Hsum.out _ (by have := hb.size; omega) (by omega) (Hcs.out _ hb))).mono ?_
          rintro e w2 ⟨rfl, hb2⟩
          have ko := (hout.below hb2 hout.lt).alloc (.cells #[.int .u64 (limb C 0), .int .u64 (limb C 1), .int .u64 (limb C 2), .int .u64 (limb C 3)] 26)
          have ks := Blk.new w2 26 #[.int .u64 (limb C 0), .int .u64 (limb C 1), .int .u64 (limb C 2), .int .u64 (limb C 3)]
          have cko := fun i => ko.cell i
          have cks := fun i => ks.cell i
          have he := He.out
          clear co fo
          go_wp2_with fail
          go_ret
          exact ⟨rfl, BW_alloc (BW_on hb hb2) _⟩
set_option maxHeartbeats 2000000 in
theorem sums_nil (p : Option Addr) (cap : Nat) (w : World) :
    Calls Try.prog 5 #[.slice p 0 cap] w fun e w' => e = .returned (.bool true) ∧ Below w.heap.size w w' := by
  go_enter Try.func5, Try.ntmps5
  go_wp2_with fail
  refine (awake04 _).mono ?_
  rintro e w1 ⟨rfl, hb1⟩
  go_wp2_with fail
  go_loopw [5, 6] (fun is i wr => is = .bool true ∧ i = .int .i64 0 ∧ Blk wr w1.heap.size 26 #[.int .u64 0, .int .u64 0, .int .u64 0, .int .u64 0] ∧ Below w.heap.size w wr) (fun _ _ _ => 0)
  case atStart => exact ⟨rfl, rfl, Blk.new w1 26 #[.int .u64 0, .int .u64 0, .int .u64 0, .int .u64 0], BW_alloc hb1 _⟩
  case round =>
    obtain ⟨rfl, rfl, hout, hb⟩ := hrel
    have co := fun i => hout.cell i
    go_wp2_with fail
    refine (sum_nil _ _ _).mono ?_
    rintro e w2 ⟨rfl, hb2⟩
    have ko := (hout.below hb2 hout.lt).alloc (.cells #[.int .u64 (limb 0 0), .int .u64 (limb 0 1), .int .u64 (limb 0 2), .int .u64 (limb 0 3)] 26)
    have ks := Blk.new w2 26 #[.int .u64 (limb 0 0), .int .u64 (limb 0 1), .int .u64 (limb 0 2), .int .u64 (limb 0 3)]
    have cko := fun i => ko.cell i
    have cks := fun i => ks.cell i
    have he := eqWide0 0 W256.zero
    have ed : (decide ((0:Nat) = 0)) = true := rfl
    rw [ed] at he
    clear co
    go_wp2_with fail
    go_ret
    exact ⟨rfl, BW_alloc (BW_on hb hb2) _⟩
theorem wide_cells {H : Type} {enc : TypeId × Value → H} {W : World} {base fuel : Nat} {sp : Nat → Bool} {hd : Bool} {cs : List Value} {x : DataW H × List MemPlace} (hl : cs.length = 4) (h : DataW.trod enc Try.prog W base sp hd fuel 26 cs = some x) :
    ∃ N, W256 N ∧ cs = [.int .u64 (limb N 0), .int .u64 (limb N 1), .int .u64 (limb N 2), .int .u64 (limb N 3)] := by
  match cs, hl with
  | [c0, c1, c2, c3], _ =>
    obtain ⟨y0, y1, y2, y3, n, _, h0, h1, h2, h3⟩ := trod_array4 Try.underlying26 (by kernel_rfl) h
    obtain ⟨z0, e0, _, w0⟩ := DataW.trod_int Try.underlying24 h0
    obtain ⟨z1, e1, _, w1⟩ := DataW.trod_int Try.underlying24 h1
    obtain ⟨z2, e2, _, w2⟩ := DataW.trod_int Try.underlying24 h2
    obtain ⟨z3, e3, _, w3⟩ := DataW.trod_int Try.underlying24 h3
    obtain ⟨a, rfl, ha⟩ := u64_nat w0
    obtain ⟨b, rfl, hb⟩ := u64_nat w1
    obtain ⟨c, rfl, hc⟩ := u64_nat w2
    obtain ⟨e, rfl, he⟩ := u64_nat w3
    obtain ⟨N, hN, l0, l1, l2, l3⟩ := limbs_exist a b c e ha hb hc he
    simp only [List.cons.injEq, and_true] at e0 e1 e2 e3
    exact ⟨N, hN, by rw [e0, e1, e2, e3, l0, l1, l2, l3]⟩
theorem open_wides {H : Type} {enc : TypeId × Value → H} {W : World} {base : Nat} {sp : Nat → Bool} {hd : Bool} {v : Value} {d : DataW H} {p : List MemPlace} (hv : Value.okWide Try.prog W .any base 40 v) (h : DataW.Trod enc Try.prog W 0 sp hd 40 v d p) :
    (∃ q cap, v = .slice q 0 cap) ∨ ∃ (g off cap : Nat) (Ns : List Nat), v = .slice (some ⟨g, off, none⟩) Ns.length cap ∧ g < W.heap.size ∧ Ns.length ≤ cap ∧ cap ≤ 9223372036854775807 ∧ (∀ x ∈ Ns, W256 x) ∧
      ∀ k (hk : k < Ns.length), ∀ i, i < 4 → W.cell? ⟨g, off + k * 4 + i, none⟩ = some (.int .u64 (limb Ns[k] i)) := by
  obtain ⟨a, len, cap, rfl⟩ := okWide_slice Try.underlying40 hv
  obtain ⟨fuel, hf⟩ := h
  rcases Nat.eq_zero_or_pos len with rfl | hpos
  · exact .inl ⟨_, _, rfl⟩
  rcases Go.Deep.open_slice Try.underlying40 hf with ⟨h0, _⟩ | ⟨a', len', cap', m, n, D, Pl, hcs, _, hl, hm, hmm, _, hi⟩
  · simp [Value.cells] at h0
    omega
  · simp [Value.cells] at hcs
    obtain ⟨rfl, rfl, rfl⟩ := hcs
    have hC : Try.prog.cellsOf 26 = 4 := by kernel_rfl
    rw [hC] at hi
    have hml : len ≤ m := by rw [hmm]; split <;> omega
    have each : ∀ k, k < len → ∃ N, W256 N ∧ ∀ i, i < 4 → W.cell? (a'.add (k * 4 + i)) = some (.int .u64 (limb N i)) := by
      intro k hk
      obtain ⟨cs', hc, ht⟩ := hi k (by omega)
      obtain ⟨_, hlen, hat⟩ := World.cells?_some hc
      obtain ⟨N, hN, rfl⟩ := wide_cells hlen ht
      refine ⟨N, hN, fun i hi4 => ?_⟩
      have h5 := hat i hi4
      rw [Go.Deep.add_add] at h5
      rw [h5]
      have : i = 0 ∨ i = 1 ∨ i = 2 ∨ i = 3 := by omega
      rcases this with rfl | rfl | rfl | rfl <;> rfl
    have build : ∃ Ns : List Nat, Ns.length = len ∧ ∀ k (hk : k < Ns.length), W256 Ns[k] ∧ ∀ i, i < 4 → W.cell? (a'.add (k * 4 + i)) = some (.int .u64 (limb Ns[k] i)) := by
      refine ⟨List.ofFn fun k : Fin len => (each k.1 k.2).choose, by simp, fun k hk => ?_⟩
      simp only [List.getElem_ofFn]
      exact (each k (by simpa using hk)).choose_spec
    obtain ⟨Ns, hlN, hNs⟩ := build
    have h00 := (hNs 0 (by omega)).2 0 (by decide)
    have hspot : a'.spot = none := by
      simp [Addr.add, World.cell?] at h00
      split at h00
      · split at h00
        · cases h00
        · rename_i hq; simpa using hq
      · cases h00
    obtain ⟨g, off, spot⟩ := a'
    simp at hspot
    subst hspot
    have eadd : ∀ j, (⟨g, off, none⟩ : Addr).add j = ⟨g, off + j, none⟩ := fun j => by unfold Addr.add; split <;> simp_all
    refine .inr ⟨g, off, cap, Ns, by rw [hlN], ?_, by omega, hm, fun x hx => ?_, fun k hk i hi4 => ?_⟩
    · exact World.block_lt_of_cell? _ _ h00
    · obtain ⟨k, hk, rfl⟩ := List.mem_iff_getElem.1 hx
      exact (hNs k hk).1
    · have := (hNs k hk).2 i hi4
      rw [eadd, ← Nat.add_assoc] at this
      exact this
theorem sums_any (Ns : List Nat) (g off cap : Nat) (hW : ∀ x ∈ Ns, W256 x) (hL : Ns.length ≤ cap) (hcap : cap ≤ 9223372036854775807) (w : World) (hg : g < w.heap.size)
    (hc : ∀ k (hk : k < Ns.length), ∀ i, i < 4 → w.cell? ⟨g, off + k * 4 + i, none⟩ = some (.int .u64 (limb Ns[k] i))) :
    Calls Try.prog 5 #[.slice (some ⟨g, off, none⟩) Ns.length cap] w fun e w' => e = .returned (.bool true) ∧ Below w.heap.size w w' := by
  rcases Nat.lt_or_ge 6 Ns.length with h6 | h6
  · exact sums_walk (Ns.take 6) 6 Ns.length g off cap (by simp; omega) (fun x hx => hW x (List.mem_of_mem_take hx)) (.inr ⟨rfl, h6⟩) hL hcap w hg (fun k hk i hi => by
      have := hc k (by simp at hk; omega) i hi
      rw [List.getElem_take]; exact this)
  · exact sums_walk Ns Ns.length Ns.length g off cap rfl hW (.inl ⟨rfl, h6⟩) hL hcap w hg hc
set_option maxRecDepth 100000 in
theorem sums_lifted (os : Os) (started : os.Started) (H : Type) (enc : TypeId × Value → H) :
    ReturnsInHanded {} Try.checked os 5 .any (Rows.wideSumsSpec.pre6 enc Try.prog Try.f5 Rows.wideSumsRow.domain false) (Rows.wideSumsSpec.post enc Try.prog Try.f5 false true false false) := by
  refine law_lifted (C := Try.checked) (tb := 4) (by kernel_rfl) started (by kernel_rfl) Try.func5
    (ChangeSpec.witness6 (enc := enc) (C := Try.checked) false ⟨#[], #[.slice none 0 0], []⟩ 8 (by kernel_rfl) (by kernel_rfl) (by kernel_rfl) (by kernel_rfl))
    laidOut (by kernel_rfl) (by kernel_rfl) Try.underlying4 rfl ?_ ?_
  · intro ds hd
    have hp : Try.f5.params.toList.length = 1 := by kernel_rfl
    rw [hp] at hd
    match ds, hd with
    | [d], _ => rfl
  · intro W base args ds ps hval hA _ _
    have hval' : ∀ (j : Nat) t v, Try.f5.params[j]? = some t → args[j]? = some v → Value.okWide Try.prog W .any base t v := hval
    have hA' : DataW.TrodAll enc Try.prog W 0 (fun _ => true) true Try.f5.params.toList args.toList ds ps := hA
    rw [Try.params5] at hA' hval'
    obtain ⟨v0, d0, rfl, rfl, h0⟩ := trodAll_one hA'
    rcases open_wides (hval' 0 40 v0 rfl rfl) h0 with ⟨q, cap, rfl⟩ | ⟨g, off, cap, Ns, rfl, hg, hl, hcap, hW, hc⟩
    · exact sums_nil q cap W
    · exact sums_any Ns g off cap hW hl hcap W hg hc
theorem WideSums_holds : Rows.WideSumsSaid :=
  OpenClaim.holds_of_wide 5 Try.f5 rfl rfl rfl rfl rfl rfl rfl ⟨rfl, rfl, rfl, rfl, rfl⟩ rfl rfl rfl rfl rfl (by kernel_rfl) Try.func5 (by kernel_rfl)
    (of_decide_eq_true (by kernel_rfl)) (by unfold Func.isWrapper; first | (rw [if_pos (by decide +kernel)]; kernel_rfl) | (rw [if_neg (by decide +kernel)]; exact ⟨rfl, rfl⟩))
    (fun os started H enc _ => sums_lifted os started H enc)
end Go.Proofs.Ytibemleodghhfaa

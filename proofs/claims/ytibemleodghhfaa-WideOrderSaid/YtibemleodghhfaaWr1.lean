/- Contracts of the reference of layer 4: a number's digits, and the number of digits. -/
import Derived.Test.YtibemleodghhfaaRows
import Derived.Test.YtibemleodghhfaaKitA
import Derived.Test.YtibemleodghhfaaWd0
import Derived.WalkKit
import Derived.WalkSpells
import Derived.WalkLawsBesides
import Derived.Deep.QuietTactic
import Derived.BigQuiet
import Derived.BigRegion
import Derived.Deep.DrawnRows
import Derived.Laws.Externs
namespace Go.Proofs.Ytibemleodghhfaa
open Go.RowKit
theorem infoInt : (Try.prog.info? 3).map (fun i => (i.zero, i.size, i.bytes)) = some (some (.int .i64 0), 1, 8) := by kernel_rfl
def cellsAre (w : World) (b : Nat) (n : Nat) : Prop := ∀ j, j < 4 → w.cell? ⟨b, j, none⟩ = some (.int .u64 (limb n j))
theorem cellsAre.below {w w' : World} {b n B : Nat} (h : cellsAre w b n) (hb : Below B w w') (hB : b < B) : cellsAre w' b n := fun j hj => (hb.cell (p := ⟨b, j, none⟩) hB).trans (h j hj)
set_option maxHeartbeats 1000000 in
theorem digits_own (n : Nat) (w : World) :
    Calls Try.prog 40 #[.agg #[.int .u64 (limb n 0), .int .u64 (limb n 1), .int .u64 (limb n 2), .int .u64 (limb n 3)]] w fun e w' => ∃ v, e = .returned v ∧ w'.ownsRow w.heap.size 3 1 v 32 (digs n 32) ∧ Below w.heap.size w w' := by
  obtain ⟨i0, hi0, hz0, hz1, hz2⟩ := info_parts infoInt
  go_enter Try.func40, Try.ntmps40
  go_wp2
  go_loopw [3, 4] (fun v i wr => ∃ k : Nat, k ≤ 32 ∧ i = .int .i64 k ∧ cellsAre wr w.heap.size n ∧ w.heap.size < wr.heap.size ∧
      wr.ownsRow (w.heap.size + 1) 3 1 v k (digs n k) ∧ Below w.heap.size w wr) (fun _ i _ => 32 - (intOf i).toNat)
  case atStart =>
    refine ⟨0, by omega, rfl, ?_, by simp, World.ownsRow_nil _ _ _ _, (Below.refl _ _).alloc (Nat.le_refl _) _⟩
    intro j hj
    have : j = 0 ∨ j = 1 ∨ j = 2 ∨ j = 3 := by omega
    rcases this with rfl | rfl | rfl | rfl <;> simp [go_sem]
  case round =>
    obtain ⟨k, hk, rfl, hcs, hz, hown, hb⟩ := hrel
    by_cases hlt : k < 32
    · have hc := hcs (k / 8) (by omega)
      have hq : (k : Int) / 8 < 4 := by omega
      have hd := dig_shift n k
      have hd0 := dig_lo n k
      have hd1 := dig_hi n k
      go_wp2_with (at_builtin; refine wpList_push rfl _ _ 64 rfl (w.heap.size + 1) 3 i0 (.int .i64 0) 1 8 Try.underlying64 hi0 hz0 hz1 hz2 rfl (by decide) _ _ _ rfl hown [.int .i64 (dig n k)] rfl rfl rfl (by unfold maxLen; omega) (by omega) (by omega) ?_; intro v1 w1 hown1 hb1 hz1)
      rw [← digs_succ] at hown1
      go_roundw
      case rel => exact ⟨k + 1, by omega, by go_num, hcs.below hb1 (by omega), by omega, hown1, hb.trans (hb1.mono (by omega))⟩
      case measure => simp [intOf]; omega
    · obtain rfl : k = 32 := by omega
      go_wp2
      go_ret
      exact ⟨_, rfl, own_mono hown (by omega), hb⟩
theorem w0 : wcells 0 = #[.int .u64 0, .int .u64 0, .int .u64 0, .int .u64 0] := by simp [wcells, limb]
theorem or_round (N d k : Nat) (hd : d < 256) (hN : N < 256 ^ k) : bits .or .u64 (limb N (k / 8)) (IntKind.u64.wrap ((d : Int) * 2 ^ (8 * (k % 8)))) = limb (N + d * 256 ^ k) (k / 8) := by
  have h := or_limb N d (k / 8) (k % 8) (by omega) hd (by rw [show 8 * (k / 8) + k % 8 = k by omega]; exact hN)
  rw [show 8 * (k / 8) + k % 8 = k by omega] at h
  rw [IntKind.wrap_u64]
  exact h
theorem vl_take_succ (ds : List Nat) (k d : Nat) (h : ds[k]? = some d) : vl (ds.take (k + 1)) = vl (ds.take k) + d * 256 ^ k := by
  have hk : k < ds.length := (List.getElem?_eq_some_iff.1 h).1
  have e : ds.take (k + 1) = ds.take k ++ [d] := by rw [List.take_add_one, h]; rfl
  rw [e, vl_snoc, List.length_take, Nat.min_eq_left (by omega)]
theorem vl_take_lt (ds : List Nat) (k : Nat) (hd : ∀ d ∈ ds, d < 256) : vl (ds.take k) < 256 ^ k := by
  have h := vl_lt (ds.take k) (fun d h => hd d (List.mem_of_mem_take h))
  exact Nat.lt_of_lt_of_le h (Nat.pow_le_pow_right (by decide) (by simp; omega))
set_option maxHeartbeats 1000000 in
theorem number_ok (g len cap : Nat) (ds : List Nat) (hd : ∀ d ∈ ds, d < 256) (Hlen : Hid (ds.length = len)) (hl : len ≤ 1000) (hz : ∀ (i d : Nat), 32 ≤ i → ds[i]? = some d → d = 0) (w : World) (hg : g < w.heap.size)
    (hc : ∀ (i d : Nat), ds[i]? = some d → w.cell? ⟨g, i, none⟩ = some (.int .i64 (d : Int))) :
    Calls Try.prog 41 #[.slice (some ⟨g, 0, none⟩) len cap] w fun e w' => e = .returned (.tuple #[.agg (wcells (vl (ds.take 32))), .bool true]) ∧ Below w.heap.size w w' := by
  go_enter Try.func41, Try.ntmps41
  go_wp2
  go_loopw [5] (fun i wr => ∃ k : Nat, k ≤ len ∧ i = .int .i64 k ∧ Blk wr (w.heap.size + 1) 26 (wcells (vl (ds.take (min k 32)))) ∧ Blk wr w.heap.size 26 (wcells 0) ∧ Below w.heap.size w wr) (fun i _ => len - (intOf i).toNat)
  case atStart =>
    refine ⟨0, by omega, rfl, ?_, ?_, ?_⟩
    · have := Blk.new (w.alloc (.cells (wcells 0) 26)) 26 (wcells 0)
      rw [← w0]
      simpa [vl] using this
    · rw [← w0]
      exact (Blk.new w 26 (wcells 0)).alloc _
    · exact ((Below.refl _ _).alloc (Nat.le_refl _) _).alloc (by simp) _
  case round =>
    obtain ⟨k, hk, rfl, hb4, hb2, hb⟩ := hrel
    by_cases hlt : k < len
    · obtain ⟨d, hdk⟩ : ∃ d, ds[k]? = some d := ⟨_, List.getElem?_eq_getElem (by have := Hlen.out; omega)⟩
      have hd1 := hd d (List.mem_of_getElem? hdk)
      have hcell := (hb.cell (p := ⟨g, k, none⟩) hg).trans (hc k d hdk)
      have hz1 := hz k d
      have Hdk := Lib.hid hdk
      clear hdk
      by_cases h32 : k < 32
      · have hmin : min k 32 = k := by omega
        rw [hmin] at hb4
        have hc4 := hb4.cell (k / 8)
        have hf4 := hb4.free (k / 8)
        have hq : (k : Int) / 8 < 4 := by omega
        rw [wcells_at _ _ (by omega)] at hc4
        have hlt' := vl_take_lt ds k hd
        have hor := or_round _ _ _ hd1 hlt'
        have hset := wcells_set _ _ _ hd1 hlt' h32
        have hnew : vl (ds.take (min (k + 1) 32)) = vl (ds.take k) + d * 256 ^ k := by rw [Nat.min_eq_left (by omega)]; exact vl_take_succ ds k d Hdk.out
        have Hnew := Lib.hid hnew
        have Hset := Lib.hid hset
        clear hnew hset hlt' hz1 hmin
        go_wp2_with fail
        go_region
        go_wp2_with fail
        go_roundw
        case rel => exact ⟨k + 1, by omega, by go_num, by rw [Hnew.out, ← Hset.out]; exact (hb4.set_ _ _).drew, (hb2.far (by simp) _).drew, (hb.setCell (by simp) _).drew⟩
        case measure => simp [intOf]; omega
      · have h0 : d = 0 := hz1 (by omega) Hdk.out
        subst h0
        clear hz1
        go_wp2_with fail
        go_roundw
        case rel =>
          refine ⟨k + 1, by omega, by go_num, ?_, hb2, hb⟩
          rw [show min (k + 1) 32 = min k 32 by omega]
          exact hb4
        case measure => simp [intOf]; omega
    · obtain rfl : k = len := by omega
      have hm : ds.take (min k 32) = ds.take 32 := by
        rw [List.take_eq_take_iff]; have := Hlen.out; omega
      rw [hm] at hb4
      clear hm
      have hc4 := fun i => hb4.cell i
      have hc2 := fun i => hb2.cell i
      have hf2 := fun i => hb2.free i
      rw [w0] at hc2
      unfold wcells at hc4
      go_wp2
      have hb2' := ((((hb2.set_ 0 (.int .u64 (limb (vl (ds.take 32)) 0))).set_ 1 (.int .u64 (limb (vl (ds.take 32)) 1))).set_ 2 (.int .u64 (limb (vl (ds.take 32)) 2))).set_ 3 (.int .u64 (limb (vl (ds.take 32)) 3)))
      have hcc := fun i => hb2'.cell i
      refine bodyPost_ret (v := .tuple #[.agg (wcells (vl (ds.take 32))), .bool true]) (by simp [results, Try.results41, go_sem, hcc, w0]; rfl) rfl ⟨rfl, ?_⟩
      exact (((hb.setCell (by simp) _).setCell (by simp) _).setCell (by simp) _).setCell (by simp) _
set_option maxHeartbeats 1000000 in
theorem number_no (g len cap j d0 : Nat) (ds : List Nat) (hd : ∀ d ∈ ds, d < 256) (Hlen : Hid (ds.length = len)) (hl : len ≤ 1000) (hj : 32 ≤ j) (hjl : j < len) (Hj : Hid (ds[j]? = some d0)) (hd0 : 0 < d0) (hz : ∀ (i d : Nat), 32 ≤ i → i < j → ds[i]? = some d → d = 0) (w : World) (hg : g < w.heap.size)
    (hc : ∀ (i d : Nat), ds[i]? = some d → w.cell? ⟨g, i, none⟩ = some (.int .i64 (d : Int))) :
    Calls Try.prog 41 #[.slice (some ⟨g, 0, none⟩) len cap] w fun e w' => e = .returned (.tuple #[.agg (wcells 0), .bool false]) ∧ Below w.heap.size w w' := by
  go_enter Try.func41, Try.ntmps41
  go_wp2
  go_loopw [5] (fun i wr => ∃ k : Nat, k ≤ j ∧ i = .int .i64 k ∧ Blk wr (w.heap.size + 1) 26 (wcells (vl (ds.take (min k 32)))) ∧ Blk wr w.heap.size 26 (wcells 0) ∧ Below w.heap.size w wr) (fun i _ => len - (intOf i).toNat)
  case atStart =>
    refine ⟨0, by omega, rfl, ?_, ?_, ?_⟩
    · have := Blk.new (w.alloc (.cells (wcells 0) 26)) 26 (wcells 0)
      rw [← w0]
      simpa [vl] using this
    · rw [← w0]
      exact (Blk.new w 26 (wcells 0)).alloc _
    · exact ((Below.refl _ _).alloc (Nat.le_refl _) _).alloc (by simp) _
  case round =>
    obtain ⟨k, hk, rfl, hb4, hb2, hb⟩ := hrel
    by_cases hlt : k < j
    · obtain ⟨d, hdk⟩ : ∃ d, ds[k]? = some d := ⟨_, List.getElem?_eq_getElem (by have := Hlen.out; omega)⟩
      have hd1 := hd d (List.mem_of_getElem? hdk)
      have hcell := (hb.cell (p := ⟨g, k, none⟩) hg).trans (hc k d hdk)
      have hz1 := hz k d
      have Hdk := Lib.hid hdk
      clear hdk
      by_cases h32 : k < 32
      · have hmin : min k 32 = k := by omega
        rw [hmin] at hb4
        have hc4 := hb4.cell (k / 8)
        have hf4 := hb4.free (k / 8)
        have hq : (k : Int) / 8 < 4 := by omega
        rw [wcells_at _ _ (by omega)] at hc4
        have hlt' := vl_take_lt ds k hd
        have hor := or_round _ _ _ hd1 hlt'
        have hset := wcells_set _ _ _ hd1 hlt' h32
        have hnew : vl (ds.take (min (k + 1) 32)) = vl (ds.take k) + d * 256 ^ k := by rw [Nat.min_eq_left (by omega)]; exact vl_take_succ ds k d Hdk.out
        have Hnew := Lib.hid hnew
        have Hset := Lib.hid hset
        clear hnew hset hlt' hz1 hmin
        have hkl : k < len := by omega
        go_wp2_with fail
        go_region
        go_wp2_with fail
        go_roundw
        case rel => exact ⟨k + 1, by omega, by go_num, by rw [Hnew.out, ← Hset.out]; exact (hb4.set_ _ _).drew, (hb2.far (by simp) _).drew, (hb.setCell (by simp) _).drew⟩
        case measure => simp [intOf]; omega
      · have h0 : d = 0 := hz1 (by omega) (by omega) Hdk.out
        have hkl : k < len := by omega
        subst h0
        clear hz1
        go_wp2_with fail
        go_roundw
        case rel =>
          refine ⟨k + 1, by omega, by go_num, ?_, hb2, hb⟩
          rw [show min (k + 1) 32 = min k 32 by omega]
          exact hb4
        case measure => simp [intOf]; omega
    · obtain rfl : k = j := by omega
      have hcell := (hb.cell (p := ⟨g, k, none⟩) hg).trans (hc k d0 Hj.out)
      have hc2 := fun i => hb2.cell i
      have hf2 := fun i => hb2.free i
      rw [w0] at hc2
      have hd2 := hd d0 (List.mem_of_getElem? Hj.out)
      go_wp2
      have hb2' := ((((hb2.set_ 0 (.int .u64 0)).set_ 1 (.int .u64 0)).set_ 2 (.int .u64 0)).set_ 3 (.int .u64 0))
      have hcc := fun i => hb2'.cell i
      refine bodyPost_ret (v := .tuple #[.agg (wcells 0), .bool false]) (by simp [results, Try.results41, go_sem, hcc, w0]) rfl ⟨rfl, ?_⟩
      exact (((hb.setCell (by simp) _).setCell (by simp) _).setCell (by simp) _).setCell (by simp) _

theorem digits_any (n : Nat) (w : World) :
    Calls Try.prog 40 #[.agg #[.int .u64 (limb n 0), .int .u64 (limb n 1), .int .u64 (limb n 2), .int .u64 (limb n 3)]] w fun e w' => ∃ g cap, e = .returned (.slice (some ⟨g, 0, none⟩) 32 cap) ∧ w.heap.size ≤ g ∧ g < w'.heap.size ∧
      (∀ i, i < 32 → w'.cell? ⟨g, i, none⟩ = some (.int .i64 (dig n i))) ∧ Below w.heap.size w w' := by
  refine (digits_own n w).mono ?_
  rintro e w' ⟨v, rfl, hown, hb⟩
  obtain ⟨g, cap, rfl, h1, h2, _, h3⟩ := own_form hown (by omega)
  exact ⟨g, cap, rfl, h1, h2, fun i hi => h3 i _ (by simp [digs, hi]), hb⟩
theorem number_any (v : Value) (base n : Nat) (ds : List Nat) (w : World) (hown : w.ownsRow base 3 1 v n (ints ds)) (hn : 0 < n) (hl : n ≤ 1000) (hd : ∀ d ∈ ds, d < 256) :
    Calls Try.prog 41 #[v] w fun e w' => e = .returned (.tuple #[.agg #[.int .u64 (limb (wN (vl ds)) 0), .int .u64 (limb (wN (vl ds)) 1), .int .u64 (limb (wN (vl ds)) 2), .int .u64 (limb (wN (vl ds)) 3)], .bool (wOk (vl ds))]) ∧ Below w.heap.size w w' := by
  obtain ⟨g, cap, rfl, h1, h2, _, h3⟩ := own_form hown hn
  have hlen : ds.length = n := by have := hown.1; rw [ints_len] at this; omega
  have hc : ∀ (i d : Nat), ds[i]? = some d → w.cell? ⟨g, i, none⟩ = some (.int .i64 (d : Int)) := fun i d h => h3 i _ (ints_at ds i d h)
  rcases first_other ds with hz | ⟨j, d0, hj, hjd, hd0, hz⟩
  · obtain ⟨he, hlt⟩ := vl_all0 ds hd hz
    have e1 : wN (vl ds) = vl (ds.take 32) := by unfold wN; rw [if_pos hlt, he]
    have e2 : wOk (vl ds) = true := by unfold wOk; exact decide_eq_true hlt
    rw [e1, e2]
    exact number_ok g n cap ds hd hlen hl hz w h2 hc
  · have hlt := vl_other ds j d0 hj hjd hd0
    have e1 : wN (vl ds) = 0 := by unfold wN; rw [if_neg hlt]
    have e2 : wOk (vl ds) = false := by unfold wOk; exact decide_eq_false hlt
    rw [e1, e2]
    exact number_no g n cap j d0 ds hd hlen hl hj (by have := (List.getElem?_eq_some_iff.1 hjd).1; omega) hjd hd0 hz w h2 hc
end Go.Proofs.Ytibemleodghhfaa

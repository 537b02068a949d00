/- Contract of the reference of layer 4: the product. -/
import Derived.Test.YtibemleodghhfaaR12
import Derived.Test.YtibemleodghhfaaWd2
import Derived.Outline
namespace Go.Proofs.Ytibemleodghhfaa
open Go.RowKit
attribute [local go_sem ↓] Go.wp_at_zero Go.wp_at_succ
theorem number_cells (g n cap : Nat) (ds : List Nat) (w : World) (h2 : g < w.heap.size) (hlen : Hid (ds.length = n)) (hl : n ≤ 1000) (hd : ∀ d ∈ ds, d < 256)
    (hc : ∀ (i d : Nat), ds[i]? = some d → w.cell? ⟨g, i, none⟩ = some (.int .i64 (d : Int))) :
    Calls Try.prog 41 #[.slice (some ⟨g, 0, none⟩) n cap] w fun e w' => e = .returned (.tuple #[.agg #[.int .u64 (limb (wN (vl ds)) 0), .int .u64 (limb (wN (vl ds)) 1), .int .u64 (limb (wN (vl ds)) 2), .int .u64 (limb (wN (vl ds)) 3)], .bool (wOk (vl ds))]) ∧ Below w.heap.size w w' := by
  rcases first_other ds with hz | ⟨j, d0, hj, hjd, hd0, hz⟩
  · obtain ⟨he, hlt⟩ := vl_all0 ds hd hz
    have e1 : wN (vl ds) = vl (ds.take 32) := by unfold wN; rw [if_pos hlt, he]
    have e2 : wOk (vl ds) = true := by unfold wOk; exact decide_eq_true hlt
    rw [e1, e2]
    exact number_ok g n cap ds hd hlen hl hz w h2 hc
  · have hlt := vl_other ds j d0 hj hjd hd0
    have e1 : wN (vl ds) = 0 := by unfold wN; rw [if_neg hlt]
    have e2 : wOk (vl ds) = false := by unfold wOk; exact decide_eq_false hlt
    rw [e1, e2]
    exact number_no g n cap j d0 ds hd hlen hl hj (by have := (List.getElem?_eq_some_iff.1 hjd).1; have := hlen.out; omega) hjd hd0 hz w h2 hc
def zeros41 : List Nat := List.replicate 41 0
def row41 : Array Value := (ints zeros41).toArray
theorem make41 (w : World) : (Instr.makeSlice 64 (.int .i64 41) (.int .i64 41)).run Try.prog w = .ok (.slice (some ⟨w.heap.size, 0, none⟩) 41 41) (w.alloc (.cells row41 3)) := by kernel_rfl
set_option maxHeartbeats 2000000 in
theorem rtimes_any (N n : Nat) (hN : N < 256 ^ 32) (hn : n < 18446744073709551616) (w : World) :
    Calls Try.prog 16 #[.agg #[.int .u64 (limb N 0), .int .u64 (limb N 1), .int .u64 (limb N 2), .int .u64 (limb N 3)], .int .u64 (n : Int)] w fun e w' =>
      e = .returned (.tuple #[.agg #[.int .u64 (limb (wN (N * n)) 0), .int .u64 (limb (wN (N * n)) 1), .int .u64 (limb (wN (N * n)) 2), .int .u64 (limb (wN (N * n)) 3)], .bool (wOk (N * n))]) ∧ Below w.heap.size w w' := by
  have HN := Lib.hid hN
  have Hn := Lib.hid hn
  clear hN hn
  go_enter Try.func16, Try.ntmps16
  go_wp2_with fail
  refine (digits_any N _).mono ?_
  rintro e w1 ⟨g1, c1, rfl, hg1, hg1', hx, hb1⟩
  have hz1'' : w.heap.size + 1 < w1.heap.size := by have := hb1.size; simp at this; omega
  have hr0 := (blk2 w _ _ _).below hb1 (by simp)
  have hB1 : Below w.heap.size w w1 := (((Below.refl _ _).alloc (Nat.le_refl _) _).alloc (by simp) _).trans (hb1.mono (by simp; omega))
  have hmk := make41
  go_wp2_with fail
  clear hmk
  have hb0 : Below w1.heap.size w1 (w1.alloc (.cells row41 3)) := (Below.refl _ _).alloc (Nat.le_refl _) _
  have hr1 := hr0.alloc (.cells row41 3)
  have hbk := blk1 w1 3 row41
  have hB2 : Below w.heap.size w (w1.alloc (.cells row41 3)) := hB1.alloc hB1.size _
  have hz2 : w1.heap.size < (w1.alloc (.cells row41 3)).heap.size := by simp
  have hx' : ∀ i, i < 32 → (w1.alloc (.cells row41 3)).cell? ⟨g1, i, none⟩ = some (.int .i64 (dig N i)) := fun i hi => (hb0.cell (p := ⟨g1, i, none⟩) hg1').trans (hx i hi)
  generalize w1.alloc (.cells row41 3) = w2 at *
  go_loopw [8] (fun i wr => ∃ k ds, k ≤ 8 ∧ i = .int .i64 (k : Nat) ∧ Blk wr w1.heap.size 3 (ints ds).toArray ∧ Hid (ds.length = 41 ∧ (∀ d ∈ ds, d < 256) ∧ vl ds = N * (n % 256 ^ k)) ∧ Below w1.heap.size w2 wr) (fun i _ => 8 - (intOf i).toNat)
  case atStart => exact ⟨0, zeros41, by omega, rfl, hbk, ⟨by decide, by decide, by rw [Nat.pow_zero, Nat.mod_one, Nat.mul_zero]; decide⟩, Below.refl _ _⟩
  case round =>
    obtain ⟨k, ds, hk, rfl, hout, hds, hb⟩ := hrel
    obtain ⟨wo, rfl⟩ : ∃ wo : World, wo = wr := ⟨_, rfl⟩
    by_cases hlt : k < 8
    · have hby := byte_of n k Hn.out
      have hd0 : n / 256 ^ k % 256 < 256 := Nat.mod_lt _ (by decide)
      generalize hd : n / 256 ^ k % 256 = d at hby hd0
      have Hd := Lib.hid hd
      clear hd
      go_wp2_with fail
      go_loopw [10, 11] (fun c i wr => ∃ (j c' : Nat) (es : List Nat), j ≤ 32 ∧ i = .int .i64 (j : Nat) ∧ c = .int .i64 (c' : Nat) ∧ c' < 256 ∧ Blk wr w1.heap.size 3 (ints es).toArray ∧ Hid (es.length = 41 ∧ (∀ d ∈ es, d < 256) ∧ vl es + c' * 256 ^ (j + k) = N * (n % 256 ^ k) + N % 256 ^ j * d * 256 ^ k) ∧ Below w1.heap.size w2 wr) (fun _ i _ => 32 - (intOf i).toNat)
      case atStart =>
        refine ⟨0, 0, ds, by omega, rfl, rfl, by omega, hout, ⟨hds.1, hds.2.1, ?_⟩, hb⟩
        rw [hds.2.2, Nat.pow_zero, Nat.mod_one]; simp
      case round =>
        obtain ⟨j, c', es, hj, rfl, rfl, hc', hout', hes, hb'⟩ := hrel
        by_cases hjlt : j < 32
        · have hxj := (hb'.cell (p := ⟨g1, j, none⟩) hg1').trans (hx' j hjlt)
          obtain ⟨x, hxe⟩ : ∃ x, es[j + k]? = some x := ⟨_, List.getElem?_eq_getElem (by have := hes.1; omega)⟩
          have hx1 := hes.2.1 x (List.mem_of_getElem? hxe)
          have hce := hout'.cell (j + k)
          have hfe := hout'.free (j + k)
          rw [ints_arr _ _ _ hxe] at hce
          have hstep := times_step es N _ d c' j k x hxe hes.2.2
          have a0 : N / 256 ^ j % 256 < 256 := Nat.mod_lt _ (by decide)
          have hdn : dig N j = ((N / 256 ^ j % 256 : Nat) : Int) := rfl
          rw [hdn] at hxj
          generalize N / 256 ^ j % 256 = a at hxj hstep a0
          have hmul := mul_le a d a0 hd0
          have hmi : ((a : Int) * (d : Int)) = ((a * d : Nat) : Int) := by simp
          generalize hp : a * d = p at hmul hmi hstep
          have Hes := Lib.hid (And.intro (show (es.set (j + k) ((x + p + c') % 256)).length = 41 by rw [List.length_set]; exact hes.1) (And.intro (mem_set_lt es (j + k) ((x + p + c') % 256) hes.2.1 (Nat.mod_lt _ (by decide))) hstep))
          have Hset := Lib.hid (ints_set es (j + k) ((x + p + c') % 256))
          have hj1 : (j : Int) + (k : Int) < 41 := by omega
          clear hp hstep hdn hxe hes
          go_wp2_with fail
          go_quiet (fail)
          go_wp2_with fail
          go_roundw
          case rel =>
            refine ⟨j + 1, (x + p + c') / 256, _, by omega, by go_num, ?_, by omega, ?_, Hes, ?_⟩
            · exact congrArg (Value.int .i64) (by omega)
            · rw [← Hset.out, show (((x + p + c') % 256 : Nat) : Int) = ((x : Int) + p + c') % 256 by omega]
              exact (hout'.drewN nq).set_ _ _
            · exact (below_drewN hb' nq).setCell (Nat.le_refl _) _
          case measure => simp [intOf]; omega
        · obtain rfl : j = 32 := by omega
          have hT := prod_lt N n (k + 1) HN.out
          rw [← prod_next, Hd.out] at hT
          have hv := hes.2.2
          rw [Nat.mod_eq_of_lt HN.out] at hv
          generalize hT0 : N * (n % 256 ^ k) + N * d * 256 ^ k = T at hT hv
          have HT := Lib.hid hT
          have HT0 := Lib.hid hT0
          have Hes := Lib.hid (And.intro hes.1 (And.intro hes.2.1 hv))
          clear hT hT0 hv hes
          go_wp2_with fail
          go_loopw [10, 13] (fun c i wr => ∃ (j c' : Nat) (es : List Nat), 32 + k ≤ j ∧ j ≤ 33 + k ∧ i = .int .i64 (j : Nat) ∧ c = .int .i64 (c' : Nat) ∧ c' < 256 ∧ Blk wr w1.heap.size 3 (ints es).toArray ∧ Hid (es.length = 41 ∧ (∀ d ∈ es, d < 256) ∧ vl es + c' * 256 ^ j = T) ∧ Below w1.heap.size w2 wr) (fun _ i _ => 50 - (intOf i).toNat)
          case atStart => exact ⟨32 + k, c', es, by omega, by omega, by go_num, rfl, hc', hout', Hes, hb'⟩
          case round =>
            obtain ⟨j, e', fs, hj1, hj2, rfl, rfl, he', hfo, hfs, hbf⟩ := hrel
            by_cases hpos : 0 < e'
            · have hjk : j < 33 + k := by
                rcases Nat.lt_or_ge j (33 + k) with h1 | h1
                · exact h1
                · obtain rfl : j = 33 + k := by omega
                  have := carry_zero hfs.2.2 (by have := HT.out; rw [show 33 + k = 32 + (k + 1) by omega]; exact this)
                  omega
              obtain ⟨x, hxe⟩ : ∃ x, fs[j]? = some x := ⟨_, List.getElem?_eq_getElem (by have := hfs.1; omega)⟩
              have hx1 := hfs.2.1 x (List.mem_of_getElem? hxe)
              have hce := hfo.cell j
              have hfe := hfo.free j
              rw [ints_arr _ _ _ hxe] at hce
              have hstep := carry_step fs _ e' j x hxe hfs.2.2
              have Hfs := Lib.hid (And.intro (show (fs.set j ((x + e') % 256)).length = 41 by rw [List.length_set]; exact hfs.1) (And.intro (mem_set_lt fs j ((x + e') % 256) hfs.2.1 (Nat.mod_lt _ (by decide))) hstep))
              have Hset := Lib.hid (ints_set fs j ((x + e') % 256))
              have hj41 : (j : Int) < 41 := by omega
              clear hstep hxe hfs
              go_wp2_with fail
              go_roundw
              case rel =>
                refine ⟨j + 1, (x + e') / 256, _, by omega, by omega, by go_num, congrArg (Value.int .i64) (by omega), by omega, ?_, Hfs, hbf.setCell (Nat.le_refl _) _⟩
                rw [← Hset.out, show (((x + e') % 256 : Nat) : Int) = ((x : Int) + e') % 256 by omega]
                exact hfo.set_ _ _
              case measure => simp [intOf]; omega
            · obtain rfl : e' = 0 := by omega
              have hfin : Hid (fs.length = 41 ∧ (∀ d ∈ fs, d < 256) ∧ vl fs = N * (n % 256 ^ (k + 1))) := by
                refine ⟨hfs.1, hfs.2.1, ?_⟩
                have h1 := hfs.2.2
                rw [Nat.zero_mul, Nat.add_zero] at h1
                rw [h1, ← HT0.out, ← prod_next, Hd.out]
              clear hfs
              go_wp2_with fail
              go_roundw
              case rel => exact ⟨k + 1, fs, by omega, by go_num, hfo, hfin, hbf⟩
              case measure => simp [intOf]; omega
    · obtain rfl : k = 8 := by omega
      have hv : vl ds = N * n := by rw [hds.2.2, Nat.mod_eq_of_lt (show n < 256 ^ 8 from Hn.out)]
      have Hlen := Lib.hid hds.1
      have hlt8 := hds.2.1
      have Hv := Lib.hid hv
      have hg2 : w1.heap.size < wo.heap.size := by have := hb.size; omega
      clear hv hds
      go_wp2_with fail
      refine (number_cells _ _ _ _ _ hg2 Hlen (by omega) hlt8 (fun i d hid => (hout.cell i).trans (ints_arr _ _ _ hid))).mono ?_
      rw [Hv.out]
      rintro e w4 ⟨rfl, hb4⟩
      have hr4 := ((hr1.below hb hr0.lt).below hb4 (by have := hr0.lt; omega))
      have hBf : Below w.heap.size w w4 := (hB2.trans (hb.mono hB1.size)).trans (hb4.mono (by have := hB1.size; omega))
      have hc2 := fun i => hr4.cell i
      have hf2 := fun i => hr4.free i
      go_wp2
      have hcc := fun i => (hr4.store4 (.int .u64 (limb (wN (N * n)) 0)) (.int .u64 (limb (wN (N * n)) 1)) (.int .u64 (limb (wN (N * n)) 2)) (.int .u64 (limb (wN (N * n)) 3))).cell i
      refine bodyPost_ret (v := .tuple #[.agg #[.int .u64 (limb (wN (N * n)) 0), .int .u64 (limb (wN (N * n)) 1), .int .u64 (limb (wN (N * n)) 2), .int .u64 (limb (wN (N * n)) 3)], .bool (wOk (N * n))]) (by simp [results, Try.results16, go_sem, hcc]) rfl ⟨rfl, ?_⟩
      exact below_store4 hBf (by omega) _ _ _ _
end Go.Proofs.Ytibemleodghhfaa

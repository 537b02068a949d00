/- The tables as the words say: two numbers by digits, multiplied. -/
import Derived.Test.YtidceockbjeaoaaDoorM1
import Derived.StillTailTactics
namespace Go.Proofs.YtidceockbjeaoaaDoor
open Go.RowKit
attribute [local go_sem ↓] Go.wp_at_zero Go.wp_at_succ
def D16 (l : List Nat) : Prop := ∀ i, l.getD i 0 < 65536
theorem D16_of {l : List Nat} (h : ∀ d ∈ l, d < 65536) : D16 l := fun i => by
  rcases Nat.lt_or_ge i l.length with hi | hi
  · rw [List.getD_eq_getElem?_getD, List.getElem?_eq_getElem hi]
    exact h _ (List.getElem_mem hi)
  · rw [List.getD_eq_getElem?_getD, List.getElem?_eq_none hi]
    decide
theorem D16.mem {l : List Nat} (h : D16 l) : ∀ d ∈ l, d < 65536 := fun d hd => by
  obtain ⟨i, hi, rfl⟩ := List.getElem_of_mem hd
  have := h i
  rwa [List.getD_eq_getElem?_getD, List.getElem?_eq_getElem hi] at this
theorem D16.set {l : List Nat} (h : D16 l) (j x : Nat) (hx : x < 65536) : D16 (l.set j x) := D16_of fun d hd => by
  rcases List.mem_or_eq_of_mem_set hd with h1 | rfl
  · exact h.mem d h1
  · exact hx
/-- What a carry of c at place j leaves, when the digit there was d. -/
theorem carry_step {o : List Nat} {j c : Nat} (hj : j < o.length) : val (o.set j ((o.getD j 0 + c) % 65536)) + (o.getD j 0 + c) / 65536 * 65536 ^ (j + 1) = val o + c * 65536 ^ j := by
  have h := val_set o j ((o.getD j 0 + c) % 65536) hj
  generalize o.getD j 0 = d at *
  have e : (d + c) = (d + c) % 65536 + 65536 * ((d + c) / 65536) := (Nat.mod_add_div _ _).symm
  have e2 : (d + c) * 65536 ^ j = (d + c) % 65536 * 65536 ^ j + (d + c) / 65536 * 65536 ^ (j + 1) := by
    conv => lhs; rw [e]
    rw [Nat.add_mul, Nat.pow_succ, Nat.mul_comm 65536 ((d + c) / 65536), Nat.mul_assoc, Nat.mul_comm 65536 (65536 ^ j)]
  rw [Nat.add_mul] at e2
  omega
theorem times_room {a b : List Nat} {m n la : Nat} (hla : a.length = la) (hlb : b.length = 4) (hda : D16 a) (hdb : D16 b) (hm : m < la) :
    val (a.take m) * val b + a.getD m 0 * val (b.take (n + 1)) * 65536 ^ m < 65536 ^ (la + 4) := by
  have h1 : val (b.take (n + 1)) ≤ val b := by
    have e : val b = val (b.take (n + 1)) + 65536 ^ (b.take (n + 1)).length * val (b.drop (n + 1)) := by rw [← val_app, List.take_append_drop]
    rw [e]
    exact Nat.le_add_right _ _
  have h2 : a.getD m 0 * val (b.take (n + 1)) * 65536 ^ m ≤ a.getD m 0 * 65536 ^ m * val b := by
    rw [Nat.mul_assoc, Nat.mul_assoc, Nat.mul_comm (val _) (65536 ^ m)]
    exact Nat.mul_le_mul_left _ (Nat.mul_le_mul_left _ h1)
  have h3 : val (a.take (m + 1)) * val b = val (a.take m) * val b + a.getD m 0 * 65536 ^ m * val b := by
    rw [val_take a m (by omega), Nat.add_mul]
  have h4 : val (a.take (m + 1)) ≤ val a := by
    have e : val a = val (a.take (m + 1)) + 65536 ^ (a.take (m + 1)).length * val (a.drop (m + 1)) := by rw [← val_app, List.take_append_drop]
    rw [e]
    exact Nat.le_add_right _ _
  have h5 := Nat.mul_le_mul_right (val b) h4
  have la1 := val_lt a hda.mem
  have lb1 := val_lt b hdb.mem
  rw [hla] at la1
  rw [hlb] at lb1
  have h6 : val a * val b < 65536 ^ la * 65536 ^ 4 := Nat.lt_of_le_of_lt (Nat.mul_le_mul_left _ (Nat.le_of_lt lb1)) (Nat.mul_lt_mul_of_pos_right la1 (show 0 < 65536 ^ 4 by decide))
  rw [Nat.pow_add]
  omega
theorem room_lt {c j T la : Nat} (hc : 0 < c) (hT : T < 65536 ^ (la + 4)) (v : Nat) (h : v + c * 65536 ^ j = T) : j < la + 4 := by
  rcases Nat.lt_or_ge j (la + 4) with h1 | h1
  · exact h1
  · exfalso
    have h2 := Nat.pow_le_pow_right (n := 65536) (by decide) h1
    have h3 := Nat.mul_le_mul_right (65536 ^ j) hc
    rw [Nat.one_mul] at h3
    omega
theorem make64 (la : Nat) (hla : la = 4 ∨ la = 9) (w : World) : (Instr.makeSlice 68 (.int .i64 ((la : Int) + 4 + 1)) (.int .i64 ((la : Int) + 4 + 1))).run Tryd.prog w = .ok (.slice (some ⟨w.heap.size, 0, none⟩) (la + 5) (la + 5)) (w.alloc (.cells (U64s (List.replicate (la + 5) 0)).toArray 71)) := by
  rcases hla with rfl | rfl
  · show (Instr.makeSlice 68 (.int .i64 9) (.int .i64 9)).run Tryd.prog w = .ok (.slice (some ⟨w.heap.size, 0, none⟩) 9 9) (w.alloc (.cells (U64s (List.replicate 9 0)).toArray 71))
    kernel_rfl
  · show (Instr.makeSlice 68 (.int .i64 14) (.int .i64 14)).run Tryd.prog w = .ok (.slice (some ⟨w.heap.size, 0, none⟩) 14 14) (w.alloc (.cells (U64s (List.replicate 14 0)).toArray 71))
    kernel_rfl
set_option maxHeartbeats 4000000 in
set_option maxRecDepth 100000 in
theorem rtimes_any (va vb : Value) (a b : List Nat) (w : World) (ha : Hid (R64 w va a)) (hb : Hid (R64 w vb b)) (hla : a.length = 4 ∨ a.length = 9) (hlb : b.length = 4) (hda : D16 a) (hdb : D16 b) :
    Calls Tryd.prog 45 #[va, vb] w fun e w' => ∃ v o, e = .returned v ∧ R64 w' v o ∧ o.length = a.length + 5 ∧ D16 o ∧ val o = val a * val b ∧ Below w.heap.size w w' := by
  obtain ⟨pa, ca, rfl, ha1⟩ := ha.out
  obtain ⟨pb, cb, rfl, hb1⟩ := hb.out
  obtain ⟨ga, oa, rfl, hca⟩ := ha1 (by omega)
  obtain ⟨gb, ob, rfl, hcb⟩ := hb1 (by omega)
  have Hca := Lib.hid hca
  have Hcb := Lib.hid hcb
  clear hca hcb ha1 hb1 ha hb
  have Hda := Lib.hid hda
  have Hdb := Lib.hid hdb
  rw [hlb]
  generalize hl : a.length = la at *
  have Hla := Lib.hid hl
  have Hlb := Lib.hid hlb
  have hla9 : la ≤ 9 := by omega
  have hmk := make64 la hla w
  have ko := blk1 w 71 (U64s (List.replicate (la + 5) 0)).toArray
  have hb0 := BW_alloc (BW_refl w) (.cells (U64s (List.replicate (la + 5) 0)).toArray 71)
  have hd0 : Hid (D16 (List.replicate (la + 5) 0)) := Lib.hid (D16_of fun d hd => by have := (List.mem_replicate.1 hd).2; omega)
  clear hl hlb hla hda hdb
  generalize w.alloc (.cells (U64s (List.replicate (la + 5) 0)).toArray 71) = W at *
  go_enter Tryd.func45, Tryd.ntmps45
  go_wp2_with fail
  clear hmk
  generalize hgo : w.heap.size = go at *
  have Hgo := Lib.hid hgo
  clear hgo
  go_loopw [6, 7, 8, 9] (fun i _ _ _ wi => ∃ (m : Nat) (o : List Nat), m ≤ la ∧ i = .int .i64 (m : Int) ∧ o.length = la + 5 ∧ Hid (D16 o) ∧ Hid (val o = val (a.take m) * val b) ∧ Blk wi go 71 (U64s o).toArray ∧ Hid (Below go w wi)) (fun i _ _ _ _ => la - (intOf i).toNat)
  case atStart => exact ⟨0, List.replicate (la + 5) 0, by omega, rfl, by rw [List.length_replicate], hd0, Lib.hid (by rw [val_zeros, List.take_zero]; simp [val]), ko, Lib.hid hb0⟩
  case round =>
    clear ko hb0 hd0
    obtain ⟨m, o, hm, rfl, ho, hod, hov, ko, hb⟩ := hrel
    by_cases hm0 : m < la
    · have hm1 : (m : Int) < (la : Int) := by omega
      go_wp2_with fail
      go_loopw [7, 8, 9] (fun i _ _ wi => ∃ (n : Nat) (o : List Nat), n ≤ 4 ∧ i = .int .i64 (n : Int) ∧ o.length = la + 5 ∧ Hid (D16 o) ∧ Hid (val o = val (a.take m) * val b + a.getD m 0 * val (b.take n) * 65536 ^ m) ∧ Blk wi go 71 (U64s o).toArray ∧ Hid (Below go w wi)) (fun i _ _ _ => 4 - (intOf i).toNat)
      case atStart => exact ⟨0, o, by omega, rfl, ho, hod, Lib.hid (by rw [hov.out, List.take_zero]; simp [val]), ko, hb⟩
      case round =>
        clear ko hb hod hov ho o
        obtain ⟨n, o, hn, rfl, ho, hod, hov, ko, hb⟩ := hrel
        by_cases hn0 : n < 4
        · have hn1 : (n : Int) < 4 := by omega
          have hbw : Below w.heap.size w wr := by rw [Hgo.out]; exact hb.out
          have cA := BW_cell hbw (Hca.out m hm0)
          have cB := BW_cell hbw (Hcb.out n (by rw [Hlb.out]; exact hn0))
          have cO := (ko.cell (m + n)).trans (U64s_at (l := o) (by omega))
          have fO := ko.free (m + n)
          have hA := Hda.out m
          have hB := Hdb.out n
          have hO := hod.out (m + n)
          have Hst := Lib.hid (carry_step (o := o) (j := m + n) (c := a.getD m 0 * b.getD n 0) (by omega))
          have Hroom := Lib.hid (times_room Hla.out Hlb.out (n := n) Hda.out Hdb.out hm0)
          have HT : Hid (val (a.take m) * val b + a.getD m 0 * val (b.take (n + 1)) * 65536 ^ m = val o + a.getD m 0 * b.getD n 0 * 65536 ^ (m + n)) := Lib.hid (by
            rw [hov.out, val_take b n (by rw [Hlb.out]; exact hn0), Nat.mul_add, Nat.add_mul, Nat.add_assoc]
            congr 2
            rw [Nat.pow_add, Nat.mul_assoc, Nat.mul_assoc, Nat.mul_assoc, Nat.mul_comm (65536 ^ m) (65536 ^ n), ← Nat.mul_assoc (b.getD n 0)])
          have hAB := Nat.mul_le_mul (show a.getD m 0 ≤ 65535 by omega) (show b.getD n 0 ≤ 65535 by omega)
          generalize hT : val (a.take m) * val b + a.getD m 0 * val (b.take (n + 1)) * 65536 ^ m = T at *
          have HTd := Bx.mk hT
          clear hT
          generalize a.getD m 0 = A at *
          generalize b.getD n 0 = Bv at *
          generalize hOv : o.getD (m + n) 0 = O at *
          clear hbw hOv
          have hmu : IntKind.u64.wrap ((A : Int) * (Bv : Int)) = ((A * Bv : Nat) : Int) := by rw [← Int.natCast_mul, IntKind.wrap_u64]; omega
          have had : IntKind.u64.wrap ((O : Int) + ((A * Bv : Nat) : Int)) = ((O + A * Bv : Nat) : Int) := by rw [← Int.natCast_add, IntKind.wrap_u64]; omega
          have hx33 : O + A * Bv < 4294967296 := by omega
          generalize A * Bv = AB at *
          generalize hX : O + AB = X at *
          have hand := and16 X (by omega)
          have hshr : (X : Int) / 65536 = ((X / 65536 : Nat) : Int) := by omega
          have hc16 : X / 65536 < 65536 := by omega
          have hmod : X % 65536 < 65536 := Nat.mod_lt _ (by decide)
          generalize X / 65536 = c4 at *
          generalize X % 65536 = d4 at *
          have hwm : IntKind.i64.wrap ((m : Int) + (n : Int)) = ((m + n : Nat) : Int) := by rw [IntKind.wrap_i64]; omega
          have hmn : m + n < la + 5 := by omega
          generalize m + n = s at *
          have hmni : (s : Int) < (la : Int) + 5 := by omega
          have hw3 : IntKind.i64.wrap ((s : Int) + 1) = (s : Int) + 1 := by rw [IntKind.wrap_i64]; omega
          have hoal : (U64s o).length = la + 5 := by simp [U64s, ho]
          clear hAB hO hA hB
          go_wp2_with fail
          go_still_tail 21, (by kernel_rfl)
          change wpList _ _ _ _ _ wr.drew
          have ko2 := ko.drew
          have hb2 := Lib.hid hb.out.drew
          have cO2 : wr.drew.cell? ⟨go, s, none⟩ = some (.int .u64 (O : Int)) := cO
          have fO2 := ko2.free s
          clear cA cB cO fO ko hb hmu had
          generalize wr.drew = V at *
          go_upto_region 9 with (fail)
          change Code.wp _ _ _ _ (V.setCell ⟨go, s, none⟩ (.int .u64 (X : Int)))
          have ko3 := ko2.set_ s (.int .u64 (X : Int))
          rw [U64s_set] at ko3
          have hb3 := Lib.hid (hb2.out.setCell (Nat.le_refl go) (.int .u64 (X : Int)) (p := ⟨go, s, none⟩))
          clear cO2 fO2 ko2 hb2
          generalize V.setCell ⟨go, s, none⟩ (.int .u64 (X : Int)) = V2 at *
          have cX : V2.cell? ⟨go, s, none⟩ = some (.int .u64 (X : Int)) := (ko3.cell s).trans ((U64s_at (by rw [List.length_set]; omega)).trans (by rw [List.getD_eq_getElem?_getD, List.getElem?_set_self (by omega)]; rfl))
          have fX := ko3.free s
          go_upto_region 11 with (fail)
          change Code.wp _ _ _ _ (V2.setCell ⟨go, s, none⟩ (.int .u64 (d4 : Int)))
          have ko4 := ko3.set_ s (.int .u64 (d4 : Int))
          rw [U64s_set, List.set_set] at ko4
          have hb4 := Lib.hid (hb3.out.setCell (Nat.le_refl go) (.int .u64 (d4 : Int)) (p := ⟨go, s, none⟩))
          have hod4 := Lib.hid (hod.out.set s d4 hmod)
          have ho4 : (o.set s d4).length = la + 5 := by rw [List.length_set]; exact ho
          have hv4 : Hid (val (o.set s d4) + c4 * 65536 ^ (s + 1) = T) := Lib.hid (by rw [Hst.out, HT.out])
          clear cX fX ko3 hb3 hand hmod HT Hst
          generalize V2.setCell ⟨go, s, none⟩ (.int .u64 (d4 : Int)) = V3 at *
          generalize o.set s d4 = o4 at *
          clear ho hod hov hX hx33 hshr
          go_wp2_with fail
          go_loopw [8, 9] (fun cv jv wi => ∃ (c j : Nat) (o : List Nat), c < 65536 ∧ j ≤ la + 5 ∧ cv = .int .u64 (c : Int) ∧ jv = .int .i64 (j : Int) ∧ o.length = la + 5 ∧ Hid (D16 o) ∧ Hid (val o + c * 65536 ^ j = T) ∧ Blk wi go 71 (U64s o).toArray ∧ Hid (Below go w wi)) (fun _ jv _ => la + 5 - (intOf jv).toNat)
          case atStart => exact ⟨c4, s + 1, o4, by omega, by omega, rfl, congrArg (Value.int .i64) (by omega), ho4, hod4, hv4, ko4, hb4⟩
          case round =>
            clear ho4 hod4 hv4 ko4 hb4 hw3 hwm hc16
            obtain ⟨c, j, o, hc, hj, rfl, rfl, ho, hod, hv, ko, hb⟩ := hrel
            by_cases hc0 : 0 < c
            · have hc1 : (0 : Int) < (c : Int) := by omega
              have hjl := room_lt hc0 Hroom.out _ hv.out
              have hji : (j : Int) < (la : Int) + 5 := by omega
              have hj1 : j < la + 5 := by omega
              have hwj : IntKind.i64.wrap ((j : Int) + 1) = (j : Int) + 1 := by rw [IntKind.wrap_i64]; omega
              have cO := (ko.cell j).trans (U64s_at (l := o) (by omega))
              have fO := ko.free j
              have hO := hod.out j
              have Hst := Lib.hid (carry_step (o := o) (j := j) (c := c) (by omega))
              generalize o.getD j 0 = O at *
              have had : IntKind.u64.wrap ((O : Int) + (c : Int)) = ((O + c : Nat) : Int) := by rw [← Int.natCast_add, IntKind.wrap_u64]; omega
              have hx33 : O + c < 4294967296 := by omega
              generalize hX : O + c = X at *
              have HX := Bx.mk hX
              clear hX
              have hand := and16 X (by omega)
              have hshr : (X : Int) / 65536 = ((X / 65536 : Nat) : Int) := by omega
              have hc16 : X / 65536 < 65536 := by omega
              have hmod : X % 65536 < 65536 := Nat.mod_lt _ (by decide)
              generalize X / 65536 = c5 at *
              generalize X % 65536 = d5 at *
              go_upto_region 15 with (fail)
              change Code.wp _ _ _ _ (wr.setCell ⟨go, j, none⟩ (.int .u64 (X : Int)))
              have ko3 := ko.set_ j (.int .u64 (X : Int))
              rw [U64s_set] at ko3
              have hb3 := Lib.hid (hb.out.setCell (Nat.le_refl go) (.int .u64 (X : Int)) (p := ⟨go, j, none⟩))
              clear cO fO ko hb had
              generalize wr.setCell ⟨go, j, none⟩ (.int .u64 (X : Int)) = V4 at *
              have cX : V4.cell? ⟨go, j, none⟩ = some (.int .u64 (X : Int)) := (ko3.cell j).trans ((U64s_at (by rw [List.length_set]; omega)).trans (by rw [List.getD_eq_getElem?_getD, List.getElem?_set_self (by omega)]; rfl))
              have fX := ko3.free j
              go_wp2_with fail
              go_roundw
              case rel =>
                have ko4 := ko3.set_ j (.int .u64 (d5 : Int))
                rw [U64s_set, List.set_set] at ko4
                exact ⟨c5, j + 1, o.set j d5, hc16, by omega, rfl, by go_num, by rw [List.length_set]; exact ho, Lib.hid (hod.out.set j d5 hmod), Lib.hid (by rw [Hst.out]; exact hv.out), ko4, Lib.hid (hb3.out.setCell (Nat.le_refl go) (.int .u64 (d5 : Int)) (p := ⟨go, j, none⟩))⟩
              case measure => simp [intOf]; omega
            · obtain rfl : c = 0 := by omega
              go_wp2_with fail
              go_roundw
              case rel =>
                refine ⟨n + 1, o, by omega, by go_num, ho, hod, Lib.hid ?_, ko, hb⟩
                have h9 := hv.out
                rw [Nat.zero_mul, Nat.add_zero] at h9
                rw [h9, ← HTd.out]
              case measure => simp [intOf]; omega
        · obtain rfl : n = 4 := by omega
          go_wp2_with fail
          go_roundw
          case rel =>
            refine ⟨m + 1, o, by omega, by go_num, ho, hod, Lib.hid ?_, ko, hb⟩
            have hb4 : b.take 4 = b := List.take_of_length_le (by rw [Hlb.out]; exact Nat.le_refl _)
            rw [hov.out, hb4, val_take a m (by rw [Hla.out]; exact hm0), Nat.add_mul]
            congr 1
            exact Nat.mul_right_comm _ _ _
          case measure => simp [intOf]; omega
    · obtain rfl : m = la := by omega
      go_wp2_with fail
      go_ret
      refine ⟨.slice (some ⟨go, 0, none⟩) (m + 5) (m + 5), o, rfl, ⟨some ⟨go, 0, none⟩, m + 5, by rw [ho], fun _ => ⟨go, 0, rfl, fun i hi => ?_⟩⟩, by have h9 := Hla.out; omega, hod.out, by have h9 := hov.out; rw [List.take_of_length_le (by rw [Hla.out]; exact Nat.le_refl _)] at h9; exact h9, by rw [Hgo.out]; exact hb.out⟩
      rw [Nat.zero_add]
      exact (ko.cell i).trans (U64s_at hi)
end Go.Proofs.YtidceockbjeaoaaDoor

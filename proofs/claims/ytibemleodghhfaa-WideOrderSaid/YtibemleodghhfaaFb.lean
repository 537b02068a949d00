/- Contract of layer 4 (wide): FromBytes. -/
import Derived.Test.YtibemleodghhfaaRb
import Derived.Lib.ConvBytes
namespace Go.Proofs.Ytibemleodghhfaa
open Go.RowKit
attribute [local go_sem ↓] Go.wp_at_zero Go.wp_at_succ
theorem from_no (s : ByteArray) (hs : s.size ≠ 32) (w : World) :
    Calls Try.prog 29 #[.string s] w fun e w' => e = .returned (.tuple #[.agg #[.int .u64 0, .int .u64 0, .int .u64 0, .int .u64 0], .int .i64 10]) ∧ Below w.heap.size w w' := by
  have hs1 : ((s.size : Int) != 32) = true := by simp; omega
  go_enter Try.func29, Try.ntmps29
  go_wp2
  have hcc := fun i => (Blk.new w 26 #[.int .u64 0, .int .u64 0, .int .u64 0, .int .u64 0]).cell i
  refine bodyPost_ret (v := .tuple #[.agg #[.int .u64 0, .int .u64 0, .int .u64 0, .int .u64 0], .int .i64 10]) (by simp [results, Try.results29, go_sem, hcc]) rfl ⟨rfl, BW_alloc (Below.refl _ _) _⟩
def fbv (N i x j : Nat) : Int := if j < i then limb N j else if j = i then (x : Int) else 0
def fbc (N i x : Nat) : Array Value := #[.int .u64 (fbv N i x 0), .int .u64 (fbv N i x 1), .int .u64 (fbv N i x 2), .int .u64 (fbv N i x 3)]
theorem fbc_at (N q x : Nat) (hq : q < 4) : (fbc N q x)[q]? = some (.int .u64 (x : Int)) := by
  have : q = 0 ∨ q = 1 ∨ q = 2 ∨ q = 3 := by omega
  rcases this with rfl | rfl | rfl | rfl <;> simp [fbc, fbv]
theorem fbc_set (N q x y : Nat) (hq : q < 4) : (fbc N q x).setIfInBounds q (.int .u64 (y : Int)) = fbc N q y := by
  have : q = 0 ∨ q = 1 ∨ q = 2 ∨ q = 3 := by omega
  rcases this with rfl | rfl | rfl | rfl <;> simp [fbc, fbv]
theorem fbc_next (N q x : Nat) (hq : q < 4) (h : limb N q = (x : Int)) : fbc N q x = fbc N (q + 1) 0 := by
  have : q = 0 ∨ q = 1 ∨ q = 2 ∨ q = 3 := by omega
  rcases this with rfl | rfl | rfl | rfl <;> simp [fbc, fbv, h]
theorem fbc_all (N : Nat) : fbc N 4 0 = #[.int .u64 (limb N 0), .int .u64 (limb N 1), .int .u64 (limb N 2), .int .u64 (limb N 3)] := by simp [fbc, fbv]
def foldB (l : List UInt8) : Nat := l.foldl (fun a c => a * 256 + c.toNat) 0
theorem foldB_snoc (l : List UInt8) (c : UInt8) : foldB (l ++ [c]) = foldB l * 256 + c.toNat := by simp [foldB, List.foldl_append]
theorem foldB_vl (l : List UInt8) : foldB l = vl (l.reverse.map UInt8.toNat) := by
  suffices h : ∀ r : List UInt8, foldB r.reverse = vl (r.map UInt8.toNat) by
    have := h l.reverse
    rwa [List.reverse_reverse] at this
  intro r
  induction r with
  | nil => rfl
  | cons c r ih => rw [List.reverse_cons, foldB_snoc, ih, List.map_cons]; simp only [vl]; omega
theorem foldB_lt (l : List UInt8) : foldB l < 256 ^ l.length := by
  rw [foldB_vl]
  have h := vl_lt (l.reverse.map UInt8.toNat) (by intro d hd; simp at hd; obtain ⟨x, _, rfl⟩ := hd; exact UInt8.toNat_lt x)
  simpa using h
theorem vl_cutk (ds : List Nat) (k : Nat) (hk : k ≤ ds.length) : vl ds = vl (ds.take k) + vl (ds.drop k) * 256 ^ k := by
  have h := vl_append (ds.take k) (ds.drop k)
  rw [List.take_append_drop, List.length_take, Nat.min_eq_left hk] at h
  exact h
theorem vl_div (ds : List Nat) (k : Nat) (hk : k ≤ ds.length) (hd : ∀ d ∈ ds, d < 256) : vl ds / 256 ^ k = vl (ds.drop k) ∧ vl ds % 256 ^ k = vl (ds.take k) := by
  have h := vl_cutk ds k hk
  have h1 := vl_take_lt ds k hd
  have hp : 0 < 256 ^ k := Nat.pow_pos (by decide)
  rw [h]
  constructor
  · rw [Nat.add_mul_div_right _ _ hp, Nat.div_eq_of_lt h1, Nat.zero_add]
  · rw [Nat.add_mul_mod_self_right, Nat.mod_eq_of_lt h1]
theorem limb_bytes (l : List UInt8) (hl : l.length = 32) (q : Nat) (hq : q < 4) : limb (unb l) q = (foldB ((l.drop ((3 - q) * 8)).take 8) : Int) := by
  have hd : ∀ d ∈ l.reverse.map UInt8.toNat, d < 256 := by intro d hd; simp at hd; obtain ⟨x, _, rfl⟩ := hd; exact UInt8.toNat_lt x
  have hll : (l.reverse.map UInt8.toNat).length = 32 := by simp [hl]
  have e : (18446744073709551616 : Nat) ^ q = 256 ^ (8 * q) := by rw [show (18446744073709551616 : Nat) = 256 ^ 8 by rfl, ← Nat.pow_mul]
  unfold limb unb
  rw [e, (vl_div _ (8 * q) (by omega) hd).1]
  have hd2 : ∀ d ∈ (l.reverse.map UInt8.toNat).drop (8 * q), d < 256 := fun d h => hd d (List.mem_of_mem_drop h)
  rw [show (18446744073709551616 : Nat) = 256 ^ 8 by rfl, (vl_div _ 8 (by rw [List.length_drop]; omega) hd2).2, foldB_vl]
  congr 2
  rw [← List.map_drop, ← List.map_take]
  congr 1
  apply List.ext_getElem?
  intro i
  by_cases hi : i < 8
  · have h1 : i < (List.take 8 (List.drop (8 * q) l.reverse)).length := by simp; omega
    have h2 : i < (List.take 8 (List.drop ((3 - q) * 8) l)).reverse.length := by simp; omega
    rw [List.getElem?_eq_getElem h1, List.getElem?_eq_getElem h2]
    simp only [List.getElem_take, List.getElem_drop, List.getElem_reverse]
    congr 1
    congr 1
    simp
    omega
  · rw [List.getElem?_eq_none (by simp; omega), List.getElem?_eq_none (by simp; omega)]
theorem shl_or (x c : Nat) (hx : x < 72057594037927936) (hc : c < 256) : bits .or .u64 ((x : Int) * 256) (c : Int) = ((x * 256 + c : Nat) : Int) := by
  have h := u64_or_nat (x * 256) c (by omega) (by omega)
  have e : x * 256 ||| c = x * 256 + c := by
    have := or_apart c x 8 (by omega)
    rw [Nat.or_comm, show (2:Nat) ^ 8 = 256 by rfl] at this
    omega
  rw [e] at h
  have e2 : ((x : Int) * 256) = ((x * 256 : Nat) : Int) := by omega
  rw [e2]
  exact h
theorem conv_bytes (w : World) (s : ByteArray) : ∃ wb c, (convert 9 55 (.string s)).run Try.prog w = .ok (.slice (some ⟨w.heap.size, 0, none⟩) s.size c) wb ∧ Below w.heap.size w wb ∧ w.heap.size < wb.heap.size ∧
    ∀ j, j < s.size → wb.cell? ⟨w.heap.size, j, none⟩ = some (.int .u8 ((s.data.toList.getD j 0).toNat : Int)) :=
  ⟨_, _, Lib.run_convert_string_bytes w 9 55 5 s Try.underlying9 Try.underlying55 Try.underlying5, ⟨rfl, rfl, rfl, by rw [Lib.bytesWorld_size]; omega, fun k hk => Lib.bytesWorld_at_old _ _ _ _ hk⟩, by rw [Lib.bytesWorld_size]; omega, fun j hj => Lib.bytesWorld_cell w 5 s j hj⟩
set_option maxHeartbeats 1000000 in
theorem from_yes (s : ByteArray) (hs : s.size = 32) (w : World) :
    Calls Try.prog 29 #[.string s] w fun e w' => e = .returned (.tuple #[.agg #[.int .u64 (limb (unb s.data.toList) 0), .int .u64 (limb (unb s.data.toList) 1), .int .u64 (limb (unb s.data.toList) 2), .int .u64 (limb (unb s.data.toList) 3)], .int .i64 0]) ∧ Below w.heap.size w w' := by
  have Hs := Lib.hid hs
  have hs1 : ((s.size : Int) != 32) = false := by simp; omega
  have hN := Lib.hid (unb_lt s hs)
  have hs32 : s.size ≤ 32 := by omega
  have hs33 : 32 ≤ s.size := by omega
  clear hs
  generalize hNN : unb s.data.toList = N at hN ⊢
  have HNN := Lib.hid hNN
  clear hNN
  go_enter Try.func29, Try.ntmps29
  go_wp2_with fail
  go_loopw [13] (fun i wr => ∃ q : Nat, q ≤ 4 ∧ i = .int .i64 (q : Int) ∧ Blk wr w.heap.size 26 #[.int .u64 0, .int .u64 0, .int .u64 0, .int .u64 0] ∧ Blk wr (w.heap.size + 1) 26 (fbc N q 0) ∧ Below w.heap.size w wr) (fun i _ => 4 - (intOf i).toNat)
  case atStart => exact ⟨0, by omega, rfl, (blk1 w _ _).alloc _, blk2 w (.cells #[.int .u64 0, .int .u64 0, .int .u64 0, .int .u64 0] 26) 26 #[.int .u64 0, .int .u64 0, .int .u64 0, .int .u64 0], BW_alloc (BW_alloc (Below.refl _ _) _) _⟩
  case round =>
    obtain ⟨q, hq, rfl, hz, hout, hb⟩ := hrel
    by_cases hlt : q < 4
    · have hq4 : (q : Int) < 4 := by omega
      obtain ⟨wo, rfl⟩ : ∃ wo : World, wo = wr := ⟨_, rfl⟩
      have hsz : ((3 - q) * 8 + 8 : Nat) ≤ s.size := by omega
      obtain ⟨wb, cp, hcv, hbb, hzb, hcell⟩ := conv_bytes wo (s.extract ((3 - q) * 8) ((3 - q) * 8 + 8))
      have hsz8 : (s.extract ((3 - q) * 8) ((3 - q) * 8 + 8)).size = 8 := by simp; omega
      have hpc : (s.extract ((3 - q) * 8) ((3 - q) * 8 + 8)).data.toList = (s.data.toList.drop ((3 - q) * 8)).take 8 := by simp [ByteArray.extract, ByteArray.copySlice]
      rw [hsz8] at hcv hcell
      have hlim : limb N q = (foldB ((s.data.toList.drop ((3 - q) * 8)).take 8) : Int) := by
        rw [← HNN.out]; exact limb_bytes _ (by simpa using Hs.out) q hlt
      generalize hPP : (s.data.toList.drop ((3 - q) * 8)).take 8 = P at hpc hlim
      have hPl : P.length = 8 := by rw [← hPP]; simp; omega
      rw [hpc] at hcell
      have Hlim := Lib.hid hlim
      have HPl := Lib.hid hPl
      have Hcell := Lib.hid hcell
      have hgw : wo.heap.size ≠ w.heap.size + 1 := by have := hout.lt; omega
      clear hPP hpc hlim hPl hsz8 hcell
      have hz1 := hz.below hbb hz.lt
      have hout1 := hout.below hbb hout.lt
      have hb1 := BW_on hb hbb
      have hwo : w.heap.size ≤ wo.heap.size := hb.size
      go_wp2_with fail
      clear hcv
      go_loopw [26] (fun t wr => ∃ t' : Nat, t' ≤ 8 ∧ t = .int .i64 (t' : Int) ∧ Blk wr w.heap.size 26 #[.int .u64 0, .int .u64 0, .int .u64 0, .int .u64 0] ∧ Blk wr (w.heap.size + 1) 26 (fbc N q (foldB (P.take t'))) ∧ Hid (∀ j, wr.cell? ⟨wo.heap.size, j, none⟩ = wb.cell? ⟨wo.heap.size, j, none⟩) ∧ Below w.heap.size w wr) (fun t _ => 8 - (intOf t).toNat)
      case atStart => exact ⟨0, by omega, rfl, hz1, hout1, fun _ => rfl, hb1⟩
      case round =>
        clear hz hout hb hz1 hout1 hb1
        obtain ⟨t, ht, rfl, hz, hout, hsame, hb⟩ := hrel
        by_cases ht8 : t < 8
        · have ht8' : (t : Int) < 8 := by omega
          have hPt : t < P.length := by rw [HPl.out]; exact ht8
          have hc : wr.cell? ⟨wo.heap.size, t, none⟩ = some (.int .u8 (P[t].toNat : Int)) := by
            rw [hsame.out, Hcell.out t ht8, List.getD_eq_getElem?_getD, List.getElem?_eq_getElem hPt]; rfl
          have hlt8 := UInt8.toNat_lt P[t]
          have hstep : foldB (P.take (t + 1)) = foldB (P.take t) * 256 + P[t].toNat := by
            rw [List.take_succ_eq_append_getElem hPt, foldB_snoc]
          have hfl : foldB (P.take t) < 72057594037927936 := by
            have h1 := foldB_lt (P.take t)
            have h2 : (256 : Nat) ^ (P.take t).length ≤ 256 ^ 7 := Nat.pow_le_pow_right (by decide) (by simp; omega)
            exact Nat.lt_of_lt_of_le h1 h2
          have hor := shl_or _ _ hfl hlt8
          have Hstep := Lib.hid hstep
          clear hstep
          have co := (hout.cell q).trans (fbc_at N q _ hlt)
          have fo := (hout.free q)
          have Hset := Lib.hid (fbc_set N q (foldB (P.take t)) (foldB (P.take t) * 256 + P[t].toNat) hlt)
          generalize foldB (P.take t) = x at *
          have hwx : IntKind.u64.wrap ((x : Int) * 256) = (x : Int) * 256 := by rw [IntKind.wrap_u64]; omega
          go_wp2_with fail
          go_roundw
          case rel => exact ⟨t + 1, by omega, by go_num, hz.off (by simp) _, by rw [Hstep.out, ← Hset.out]; exact hout.set_ _ _, fun j => by rw [World.cell?_setCell_far _ _ _ _ (by simp; omega)]; exact hsame.out j, BW_off (by simp) _ hb⟩
          case measure => simp [intOf]; omega
        · obtain rfl : t = 8 := by omega
          go_wp2_with fail
          go_roundw
          case rel => exact ⟨q + 1, by omega, by go_num, hz, by rw [← fbc_next N q _ hlt Hlim.out]; rw [List.take_of_length_le (by rw [HPl.out]; exact Nat.le_refl _)] at hout; exact hout, hb⟩
          case measure => simp [intOf]; omega
    · obtain rfl : q = 4 := by omega
      rw [fbc_all] at hout
      have co := fun i => hout.cell i
      have fo := fun i => hz.free i
      have cz := fun i => hz.cell i
      go_wp2
      have hcc := fun i => (hz.store4 (.int .u64 (limb N 0)) (.int .u64 (limb N 1)) (.int .u64 (limb N 2)) (.int .u64 (limb N 3))).cell i
      refine bodyPost_ret (v := .tuple #[.agg #[.int .u64 (limb N 0), .int .u64 (limb N 1), .int .u64 (limb N 2), .int .u64 (limb N 3)], .int .i64 0]) (by simp [results, Try.results29, go_sem, hcc]) rfl ⟨rfl, below_store4 hb (Nat.le_refl _) _ _ _ _⟩
end Go.Proofs.Ytibemleodghhfaa

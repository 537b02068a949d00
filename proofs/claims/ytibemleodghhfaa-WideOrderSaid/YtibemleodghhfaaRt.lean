/- Contracts of the document's answer of layer 4: ten, Text. -/
import Derived.Test.YtibemleodghhfaaFb
namespace Go.Proofs.Ytibemleodghhfaa
open Go.RowKit
attribute [local go_sem ↓] Go.wp_at_zero Go.wp_at_succ
def qc (n q : Nat) : List Nat := (List.range 32).map fun i => if i < q then 0 else n / 10 / 256 ^ i % 256
theorem qc_len (n q : Nat) : (qc n q).length = 32 := by simp [qc]
theorem qc_set (n q : Nat) (hq : q < 32) : (qc n (q + 1)).set q (n / 10 / 256 ^ q % 256) = qc n q := by
  apply List.ext_getElem?
  intro i
  rcases Nat.lt_or_ge i 32 with hi | hi
  · by_cases h : i = q
    · subst h
      rw [List.getElem?_set_self (by rw [qc_len]; exact hi)]
      simp [qc, hi]
    · rw [List.getElem?_set_ne (by omega)]
      simp [qc, hi]
      by_cases h2 : i < q
      · simp [h2, show i < q + 1 by omega]
      · simp [h2, show ¬ i < q + 1 by omega]
  · rw [List.getElem?_eq_none (by simp [qc]; exact hi), List.getElem?_eq_none (by simp [qc]; exact hi)]
theorem qc_zero (n : Nat) : qc n 0 = digl (n / 10) 32 := by simp [qc, digl]
theorem ten_step (n k : Nat) : (n / 256 ^ (k + 1) % 10 * 256 + n / 256 ^ k % 256) / 10 = n / 10 / 256 ^ k % 256 ∧ (n / 256 ^ (k + 1) % 10 * 256 + n / 256 ^ k % 256) % 10 = n / 256 ^ k % 10 := by
  have e1 : n / 256 ^ (k + 1) = n / 256 ^ k / 256 := by rw [Nat.pow_succ, ← Nat.div_div_eq_div_mul]
  have e2 : n / 10 / 256 ^ k = n / 256 ^ k / 10 := by rw [Nat.div_div_eq_div_mul, Nat.div_div_eq_div_mul, Nat.mul_comm]
  rw [e1, e2]
  generalize n / 256 ^ k = x
  omega
def zeros32 : List Nat := List.replicate 32 0
def row32 : Array Value := (ints zeros32).toArray
theorem make32 (w : World) : (Instr.makeSlice 64 (.int .i64 32) (.int .i64 32)).run Try.prog w = .ok (.slice (some ⟨w.heap.size, 0, none⟩) 32 32) (w.alloc (.cells row32 3)) := by kernel_rfl
theorem row32_qc (n : Nat) : row32 = (ints (qc n 32)).toArray := by
  have : qc n 32 = zeros32 := by
    apply List.ext_getElem (by simp [qc, zeros32])
    intro i h1 h2
    have hi : i < 32 := by simpa [qc] using h1
    simp only [qc, zeros32, List.getElem_map, List.getElem_range, List.getElem_replicate]
    rw [if_pos hi]
  rw [this]; rfl
set_option maxHeartbeats 1000000 in
theorem ten_any (n : Nat) (hn : W256 n) (w : World) :
    Calls Try.prog 48 #[.agg #[.int .u64 (limb n 0), .int .u64 (limb n 1), .int .u64 (limb n 2), .int .u64 (limb n 3)]] w fun e w' =>
      e = .returned (.tuple #[.agg #[.int .u64 (limb (n / 10) 0), .int .u64 (limb (n / 10) 1), .int .u64 (limb (n / 10) 2), .int .u64 (limb (n / 10) 3)], .int .i64 ((n % 10 : Nat) : Int)]) ∧ Below w.heap.size w w' := by
  have HN := Lib.hid hn
  clear hn
  go_enter Try.func48, Try.ntmps48
  go_wp2_with fail
  refine (digits_any n _).mono ?_
  rintro e w1 ⟨g, c, rfl, hg1, hg2, hx, hb1⟩
  have k0 := ((blk2 w (.cells (wcells n) 26) 26 #[.int .u64 0, .int .u64 0, .int .u64 0, .int .u64 0]).on hb1).alloc (.cells row32 3)
  have hB1 := BW_alloc (BW_on (BW_alloc (BW_alloc (Below.refl w.heap.size w) _) _) hb1) (.cells row32 3)
  have hmk := make32
  go_wp2_with fail
  clear hmk
  have kr := Blk.new w1 3 row32
  have hx' : ∀ i, i < 32 → (w1.alloc (.cells row32 3)).cell? ⟨g, i, none⟩ = some (.int .i64 (dig n i)) := fun i hi => (((Below.refl w1.heap.size w1).alloc (Nat.le_refl _) (.cells row32 3)).cell (p := ⟨g, i, none⟩) hg2).trans (hx i hi)
  have hz1 : w.heap.size + 1 < w1.heap.size := by have := hb1.size; simp at this; omega
  have hB0 : w.heap.size ≤ w1.heap.size := by omega
  generalize w1.alloc (.cells row32 3) = w2 at *
  go_loopw [6, 7] (fun r i wr => ∃ q : Nat, q ≤ 32 ∧ i = .int .i64 ((q : Int) - 1) ∧ r = .int .i64 ((n / 256 ^ q % 10 : Nat) : Int) ∧ Blk wr w1.heap.size 3 (ints (qc n q)).toArray ∧ Below w1.heap.size w2 wr) (fun _ i _ => (intOf i + 1).toNat)
  case atStart => exact ⟨32, by omega, rfl, by rw [Nat.div_eq_of_lt HN.out]; rfl, by rw [← row32_qc]; exact kr, Below.refl _ _⟩
  case round =>
    obtain ⟨q, hq, rfl, rfl, hout, hb⟩ := hrel
    by_cases h0 : 0 < q
    · obtain ⟨p, rfl⟩ : ∃ p, q = p + 1 := ⟨q - 1, by omega⟩
      rw [show ((p + 1 : Nat) : Int) - 1 = (p : Int) from by omega]
      have hc := (hb.cell (p := ⟨g, p, none⟩) hg2).trans (hx' p (by omega))
      have hdn : dig n p = ((n / 256 ^ p % 256 : Nat) : Int) := rfl
      rw [hdn] at hc
      have hst := ten_step n p
      have h9 : n / 256 ^ (p + 1) % 10 < 10 := Nat.mod_lt _ (by decide)
      have h255 : n / 256 ^ p % 256 < 256 := Nat.mod_lt _ (by decide)
      have hset := Lib.hid (qc_set n p (by omega))
      generalize n / 256 ^ (p + 1) % 10 = r at *
      generalize n / 256 ^ p % 256 = d at *
      generalize n / 10 / 256 ^ p % 256 = x at *
      generalize hr' : n / 256 ^ p % 10 = r' at *
      have HR' := Lib.hid hr'
      clear hr'
      have hx1 : ((r : Int) * 256 + (d : Int)) / 10 = (x : Int) := by omega
      have hr1 : ((r : Int) * 256 + (d : Int)) % 10 = (r' : Int) := by omega
      have hlen : (qc n (p + 1)).length = 32 := qc_len _ _
      have hco := hout.cell p
      have hfo := hout.free p
      obtain ⟨y, hy⟩ : ∃ y, (qc n (p + 1))[p]? = some y := ⟨_, List.getElem?_eq_getElem (by omega)⟩
      rw [ints_arr _ _ _ hy] at hco
      have hp32 : (p : Int) < 32 := by omega
      clear hst hdn hlen hy
      go_wp2_with fail
      go_roundw
      case rel => exact ⟨p, by omega, rfl, by rw [hr1, HR'.out], by rw [← hset.out, ← ints_set]; exact hout.set_ _ _, hb.setCell (Nat.le_refl _) _⟩
      case measure => simp [intOf]
    · obtain rfl : q = 0 := by omega
      rw [show ((0 : Nat) : Int) - 1 = -1 from by omega]
      have hnum := number_cells w1.heap.size 32 32 (qc n 0) wr hout.lt (qc_len _ _) (by decide) (by rw [qc_zero]; exact digl_lt _ _) (fun i d h => by rw [hout.cell i]; exact ints_arr _ _ _ h)
      have hW : W256 (n / 10) := Nat.lt_of_le_of_lt (Nat.div_le_self _ _) HN.out
      have hv : vl (qc n 0) = n / 10 := by rw [qc_zero, vl_digl, Nat.mod_eq_of_lt hW]
      rw [hv, wN_of hW] at hnum
      have Hnum := Lib.hid hnum
      rw [show n / 256 ^ 0 % 10 = n % 10 by simp]
      clear hnum hv hW
      generalize hq' : n / 10 = Q at Hnum
      have HQ := Lib.hid hq'
      clear hq'
      go_wp2_with fail
      refine Hnum.out.mono ?_
      rintro e w3 ⟨rfl, hb3⟩
      have k1 := ((k0.below hb hz1).on hb3).alloc (.cells #[.int .u64 (limb Q 0), .int .u64 (limb Q 1), .int .u64 (limb Q 2), .int .u64 (limb Q 3)] 26)
      have hB3 := BW_alloc (BW_on (hB1.trans (hb.mono hB0)) hb3) (.cells #[.int .u64 (limb Q 0), .int .u64 (limb Q 1), .int .u64 (limb Q 2), .int .u64 (limb Q 3)] 26)
      have fo := fun i => k1.free i
      have co := fun i => k1.cell i
      go_wp2
      have hcc := fun i => (k1.store4 (.int .u64 (limb Q 0)) (.int .u64 (limb Q 1)) (.int .u64 (limb Q 2)) (.int .u64 (limb Q 3))).cell i
      refine bodyPost_ret (v := .tuple #[.agg #[.int .u64 (limb Q 0), .int .u64 (limb Q 1), .int .u64 (limb Q 2), .int .u64 (limb Q 3)], .int .i64 ((n % 10 : Nat) : Int)]) (by simp [results, Try.results48, go_sem, hcc]) rfl ⟨by rw [HQ.out], below_store4 hB3 (by omega) _ _ _ _⟩
theorem cmp_zero (n : Nat) (hn : W256 n) (w : World) : Calls Try.prog 27 #[.agg #[.int .u64 (limb n 0), .int .u64 (limb n 1), .int .u64 (limb n 2), .int .u64 (limb n 3)], .agg #[.int .u64 0, .int .u64 0, .int .u64 0, .int .u64 0]] w fun e w' => e = .returned (.int .i64 (cmpI n 0)) ∧ Below w.heap.size w w' := by
  have h := rcompare_any n 0 hn W256.zero w
  rw [w0'.1, w0'.2.1, w0'.2.2.1, w0'.2.2.2] at h
  exact h
def dgt (d : Nat) : UInt8 := UInt8.ofNat (48 + d)
def txS (ds : List Nat) : ByteArray := ⟨(ds.reverse.map dgt).toArray⟩
theorem txS_snoc (ds : List Nat) (r : Nat) : (⟨#[dgt r]⟩ : ByteArray) ++ txS ds = txS (ds ++ [r]) := by
  unfold txS
  rw [List.reverse_append]
  apply ByteArray.ext
  simp
set_option maxHeartbeats 1000000 in
theorem rtext_any (n : Nat) (hn : W256 n) (w : World) :
    Calls Try.prog 35 #[.agg #[.int .u64 (limb n 0), .int .u64 (limb n 1), .int .u64 (limb n 2), .int .u64 (limb n 3)]] w fun e w' => e = .returned (.string ⟨(txt n).toArray⟩) ∧ Below w.heap.size w w' := by
  go_enter Try.func35, Try.ntmps35
  go_wp2
  go_loopw [3] (fun v wr => ∃ (f c : Nat) (ds : List Nat), W256 c ∧ v = .string (txS ds) ∧ Hid (c < 10 ^ (f + 1) ∧ ds ++ dec (f + 1) c = dec 78 n ∧ ds.length + f = 77) ∧ Blk wr w.heap.size 26 (wcells c) ∧ Below w.heap.size w wr) (fun v _ => match v with | .string s => 78 - s.size | _ => 0)
  case atStart => exact ⟨77, n, [], hn, rfl, ⟨Nat.lt_of_lt_of_le hn ten_pow, rfl, rfl⟩, blk1 w _ _, BW_alloc (Below.refl _ _) _⟩
  case round =>
    obtain ⟨f, c, ds, hc, rfl, hinv, hblk, hb⟩ := hrel
    have hcell := fun i => hblk.cell i
    unfold wcells at hcell
    have Hten := Lib.hid (ten_any c hc)
    have hr10 : c % 10 < 10 := Nat.mod_lt _ (by decide)
    generalize hr : c % 10 = r at Hten hr10
    generalize hq : c / 10 = q at Hten
    have Hr := Lib.hid hr
    have Hq := Lib.hid hq
    have hqW : W256 q := by rw [← hq]; exact Nat.lt_of_le_of_lt (Nat.div_le_self _ _) hc
    clear hr hq
    go_wp2_with fail
    refine (Hten.out _).mono ?_
    rintro e w1 ⟨rfl, hb1⟩
    have kb := (hblk.on hb1).alloc (.cells #[.int .u64 (limb q 0), .int .u64 (limb q 1), .int .u64 (limb q 2), .int .u64 (limb q 3)] 26)
    have hB1 := BW_alloc (BW_on hb hb1) (.cells #[.int .u64 (limb q 0), .int .u64 (limb q 1), .int .u64 (limb q 2), .int .u64 (limb q 3)] 26)
    unfold wcells at kb
    have cb := fun i => kb.cell i
    have fb := fun i => kb.free i
    clear hcell
    have hr9 : (r : Int) < 10 := by omega
    have hcv := run_convert_bytes_back (P := Try.prog) ((w1.alloc (.cells #[.int .u64 (limb q 0), .int .u64 (limb q 1), .int .u64 (limb q 2), .int .u64 (limb q 3)] 26)).alloc (.cells #[.int .u8 (48 + (r : Int))] 5)) 55 9 5 ⟨w1.heap.size + 1, 0, none⟩ 1 [dgt r] Try.underlying55 Try.underlying5 Try.underlying9 (fun j hj => by
        obtain rfl : j = 0 := by simpa using hj
        have k := blk2 w1 (.cells #[.int .u64 (limb q 0), .int .u64 (limb q 1), .int .u64 (limb q 2), .int .u64 (limb q 3)] 26) 5 #[.int .u8 (48 + (r : Int))]
        have e1 : (⟨w1.heap.size + 1, 0, none⟩ : Addr).add 0 = ⟨w1.heap.size + 1, 0, none⟩ := rfl
        rw [e1, k.cell 0]
        simp [dgt]
        omega)
    have hsz : (txS ds).size = ds.length := by simp [txS, ByteArray.size]
    have hsb : ds.length ≤ 77 := by have := hinv.out.2.2; omega
    have hs1 : ((txS ds).size : Int) ≤ 77 := by omega
    have hap := txS_snoc ds r
    simp only [List.length_cons, List.length_nil] at hcv
    have kb' := kb.alloc (.cells #[.int .u8 (48 + (r : Int))] 5)
    have cb' := fun i => kb'.cell i
    have fb' := fun i => kb'.free i
    clear fb
    have Hsz := Lib.hid hsz
    clear hsz
    go_wp2_with fail
    have ks := kb'.store4 (.int .u64 (limb q 0)) (.int .u64 (limb q 1)) (.int .u64 (limb q 2)) (.int .u64 (limb q 3))
    have hBs := below_store4 (BW_alloc hB1 (.cells #[.int .u8 (48 + (r : Int))] 5)) (Nat.le_refl _) (.int .u64 (limb q 0)) (.int .u64 (limb q 1)) (.int .u64 (limb q 2)) (.int .u64 (limb q 3))
    refine (cmp_zero q hqW _).mono ?_
    rintro e w2 ⟨rfl, hb2⟩
    have hB2 := BW_on hBs hb2
    have k2 := ks.on hb2
    by_cases hq0 : q = 0
    · have he : cmpI q 0 = 0 := cmpI_eq hq0
      have hdec : ds ++ [r] = dec 78 n := by
        have h := hinv.out.2.1
        rw [dec_succ, Hq.out, Hr.out, if_pos hq0] at h
        exact h
      have Hdec := Lib.hid hdec
      rw [he]
      clear he hq0 hdec hap cb cb' fb' hcv
      go_wp2_with fail
      go_ret
      exact ⟨by rw [Hdec.out]; rfl, hB2⟩
    · have he : cmpI q 0 = 1 := cmpI_gt (by omega)
      obtain ⟨f', rfl⟩ : ∃ f', f = f' + 1 := by
        rcases Nat.eq_zero_or_pos f with h0 | h0
        · subst h0; have := hinv.out.1; have := Hq.out; omega
        · exact ⟨f - 1, by omega⟩
      have hinv' : Hid (q < 10 ^ (f' + 1) ∧ (ds ++ [r]) ++ dec (f' + 1) q = dec 78 n ∧ (ds ++ [r]).length + f' = 77) := by
        have h := hinv.out.2.1
        rw [dec_succ, Hq.out, Hr.out, if_neg hq0] at h
        refine ⟨by rw [← Hq.out]; exact div_lt_pow hinv.out.1, ?_, ?_⟩
        · rw [List.append_assoc]; exact h
        · have := hinv.out.2.2; simp; omega
      rw [he]
      have hm1 : (txS (ds ++ [r])).size = ds.length + 1 := by simp [txS, ByteArray.size]
      have Hm1 := Lib.hid hm1
      clear he hq0 hap cb cb' fb' hcv hm1
      go_wp2_with fail
      refine ⟨⟨f', q, ds ++ [r], hqW, rfl, hinv', k2, hB2⟩, ?_⟩
      show 78 - (txS (ds ++ [r])).size < 78 - (txS ds).size
      rw [Hm1.out, Hsz.out]
      omega
end Go.Proofs.Ytibemleodghhfaa

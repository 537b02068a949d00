/- Contract of the document's answer for the hash: one block. -/
import Derived.Test.YtbimnfmjgmfijaaDoorT3
import Derived.Deep.RegionLaw
import Derived.StillTailTactics
namespace Go.Proofs.YtbimnfmjgmfijaaDoor
open Go.RowKit
attribute [local go_sem ↓] Go.wp_at_zero Go.wp_at_succ
theorem a8_size : (Tryd.prog.info? 99).map (·.size) = some 8 := by kernel_rfl
def yv (a b c d e f g h : Int) : Array Value := #[.int .u32 a, .int .u32 b, .int .u32 c, .int .u32 d, .int .u32 e, .int .u32 f, .int .u32 g, .int .u32 h]
set_option maxHeartbeats 4000000 in
set_option maxRecDepth 100000 in
theorem rblock_any (x0 x1 x2 x3 x4 x5 x6 x7 : Int) (gB gK gb off cap cB nB cK : Nat) (B : List Nat) (K : List Int) (w : World) (hB : B.length = 64) (hb8 : ∀ i, B.getD i 0 < 256)
    (hK : Hid (∀ i, i < 64 → w.cell? ⟨gK, i, none⟩ = some (.int .u32 (K.getD i 0)))) (hbc : Hid (∀ i, i < 64 → w.cell? ⟨gb, off + i, none⟩ = some (.int .u8 ((B.getD i 0 : Nat) : Int)))) :
    Calls Tryd.prog 78 #[.agg #[.slice (some ⟨gB, 0, none⟩) nB cB, .slice (some ⟨gK, 0, none⟩) 64 cK], .agg #[.int .u32 x0, .int .u32 x1, .int .u32 x2, .int .u32 x3, .int .u32 x4, .int .u32 x5, .int .u32 x6, .int .u32 x7], .slice (some ⟨gb, off, none⟩) 64 cap] w
      fun e w' => e = .returned (.agg (U32 (comp K [x0, x1, x2, x3, x4, x5, x6, x7] B)).toArray) ∧ Below w.heap.size w w' := by
  have Hb := Lib.hid hb8
  have HB := Lib.hid hB
  clear hB hb8
  go_enter Tryd.func78, Tryd.ntmps78
  have kt := ((blk1 w 95 #[.slice (some ⟨gB, 0, none⟩) nB cB, .slice (some ⟨gK, 0, none⟩) 64 cK]).alloc (.cells (U32 [x0, x1, x2, x3, x4, x5, x6, x7]).toArray 99)).alloc (.cells (U32 [0, 0, 0, 0, 0, 0, 0, 0]).toArray 99)
  have kx := (blk2 w (.cells #[.slice (some ⟨gB, 0, none⟩) nB cB, .slice (some ⟨gK, 0, none⟩) 64 cK] 95) 99 (U32 [x0, x1, x2, x3, x4, x5, x6, x7]).toArray).alloc (.cells (U32 [0, 0, 0, 0, 0, 0, 0, 0]).toArray 99)
  have kr := blk3 w (.cells #[.slice (some ⟨gB, 0, none⟩) nB cB, .slice (some ⟨gK, 0, none⟩) 64 cK] 95) (.cells (U32 [x0, x1, x2, x3, x4, x5, x6, x7]).toArray 99) 99 (U32 [0, 0, 0, 0, 0, 0, 0, 0]).toArray
  have hb0 := BW_alloc (BW_alloc (BW_alloc (BW_refl w) (.cells #[.slice (some ⟨gB, 0, none⟩) nB cB, .slice (some ⟨gK, 0, none⟩) 64 cK] 95)) (.cells (U32 [x0, x1, x2, x3, x4, x5, x6, x7]).toArray 99)) (.cells (U32 [0, 0, 0, 0, 0, 0, 0, 0]).toArray 99)
  go_upto_region 1 with (fail)
  change Code.wp _ _ _ _ (((w.alloc (.cells #[.slice (some ⟨gB, 0, none⟩) nB cB, .slice (some ⟨gK, 0, none⟩) 64 cK] 95)).alloc (.cells (U32 [x0, x1, x2, x3, x4, x5, x6, x7]).toArray 99)).alloc (.cells (U32 [0, 0, 0, 0, 0, 0, 0, 0]).toArray 99))
  generalize ((w.alloc (.cells #[.slice (some ⟨gB, 0, none⟩) nB cB, .slice (some ⟨gK, 0, none⟩) 64 cK] 95)).alloc (.cells (U32 [x0, x1, x2, x3, x4, x5, x6, x7]).toArray 99)).alloc (.cells (U32 [0, 0, 0, 0, 0, 0, 0, 0]).toArray 99) = W at *
  have Hord : Hid (w.heap.size < w.heap.size + 1 ∧ w.heap.size + 1 < w.heap.size + 1 + 1 ∧ w.heap.size ≤ w.heap.size) := ⟨by omega, by omega, by omega⟩
  have hbc2 : Hid (∀ i, i < 64 → W.cell? ⟨gb, off + i, none⟩ = some (.int .u8 ((B.getD i 0 : Nat) : Int))) := fun i hi => BW_cell hb0 (hbc.out i hi)
  have hK2 : Hid (∀ i, i < 64 → W.cell? ⟨gK, i, none⟩ = some (.int .u32 (K.getD i 0))) := fun i hi => BW_cell hb0 (hK.out i hi)
  clear hK hbc
  generalize w.heap.size + 1 + 1 = g6 at *
  generalize w.heap.size + 1 = g4 at *
  generalize hg3 : w.heap.size = g3 at *
  have Hg3 := Lib.hid hg3
  clear hg3
  have kw := blk1 W 109 (U32 (List.replicate 64 0)).toArray
  have hbW := BW_alloc (BW_refl W) (.cells (U32 (List.replicate 64 0)).toArray 109)
  have Hkt := Lib.hid kt
  have Hkx := Lib.hid kx
  have Hkr := Lib.hid kr
  have Hb0 := Lib.hid hb0
  clear kt kx kr hb0
  go_wp2_with fail
  go_loopw [8, 9, 10] (fun i _ _ wr => ∃ k : Nat, k ≤ 64 ∧ i = .int .i64 (k : Int) ∧ Hid (Blk wr W.heap.size 109 (U32 (wx B k)).toArray) ∧ Below W.heap.size W wr) (fun i _ _ _ => 64 - (intOf i).toNat)
  case atStart => exact ⟨0, by omega, rfl, kw, hbW⟩
  case round =>
    clear kw hbW
    obtain ⟨k, hk, rfl, kw, hb⟩ := hrel
    by_cases hlt : k < 16
    · skip
      --<A
      have hk1 : (k : Int) < 16 := by omega
      have hk2 : (k : Int) < 64 := by omega
      have c0 := BW_cell hb (hbc2.out (4 * k) (by omega))
      have c1 := BW_cell hb (hbc2.out (4 * k + 1) (by omega))
      have c2 := BW_cell hb (hbc2.out (4 * k + 2) (by omega))
      have c3 := BW_cell hb (hbc2.out (4 * k + 3) (by omega))
      have h0 := Hb.out (4 * k)
      have h1 := Hb.out (4 * k + 1)
      have h2 := Hb.out (4 * k + 2)
      have h3 := Hb.out (4 * k + 3)
      have Hpt := Lib.hid (pt_ref B k Hb.out)
      generalize B.getD (4 * k) 0 = b0 at *
      generalize B.getD (4 * k + 1) 0 = b1 at *
      generalize B.getD (4 * k + 2) 0 = b2 at *
      generalize B.getD (4 * k + 3) 0 = b3 at *
      have hwl := wx_len B k hk
      have cw : wr.cell? ⟨W.heap.size, k, none⟩ = some (.int .u32 ((wx B k).getD k 0)) := by rw [kw.out.cell, U32_at (by rw [hwl]; omega)]
      have fw : wr.frozen? ⟨W.heap.size, k, none⟩ = false := kw.out.free k
      clear hwl
      generalize (wx B k).getD k 0 = wk at *
      have q0 : IntKind.i64.wrap (4 * (k : Int)) = 4 * (k : Int) := by rw [IntKind.wrap_i64]; omega
      have q1 : IntKind.i64.wrap (4 * (k : Int) + 1) = 4 * (k : Int) + 1 := by rw [IntKind.wrap_i64]; omega
      have q2 : IntKind.i64.wrap (4 * (k : Int) + 2) = 4 * (k : Int) + 2 := by rw [IntKind.wrap_i64]; omega
      have q3 : IntKind.i64.wrap (4 * (k : Int) + 3) = 4 * (k : Int) + 3 := by rw [IntKind.wrap_i64]; omega
      have t0 : (4 * (k : Int)).toNat = 4 * k := by omega
      have t1 : (4 * (k : Int) + 1).toNat = 4 * k + 1 := by omega
      have t2 : (4 * (k : Int) + 2).toNat = 4 * k + 2 := by omega
      have t3 : (4 * (k : Int) + 3).toNat = 4 * k + 3 := by omega
      have l0 : (4 * (k : Int)) < 64 := by omega
      have l1 : (4 * (k : Int) + 1) < 64 := by omega
      have l2 : (4 * (k : Int) + 2) < 64 := by omega
      have l3 : (4 * (k : Int) + 3) < 64 := by omega
      have g0 : 0 ≤ (4 * (k : Int)) := by omega
      have g1 : 0 ≤ (4 * (k : Int) + 1) := by omega
      have g2 : 0 ≤ (4 * (k : Int) + 2) := by omega
      have g3' : 0 ≤ (4 * (k : Int) + 3) := by omega
      go_wp2_with fail
      go_still_tail 35, (by kernel_rfl)
      have kv2 := Lib.hid (kw.out.drew)
      have hb2 := hb.drew
      have cw2 : wr.drew.cell? ⟨W.heap.size, k, none⟩ = some (.int .u32 wk) := cw
      have fw2 := kv2.out.free k
      clear c0 c1 c2 c3 cw fw kw hb
      change wpList _ _ _ _ _ wr.drew
      generalize wr.drew = V2 at *
      go_wp2_with fail
      go_roundw
      case rel =>
        refine ⟨k + 1, by omega, by go_num, Lib.hid ?_, BW_off (Nat.le_refl _) _ hb2⟩
        have h9 := kv2.out.set_ k (.int .u32 (pt B k 4))
        rw [U32_set, wx_low B k hlt] at h9
        rw [← Hpt.out] at h9
        exact h9
      case measure => simp [intOf]; omega
      --A>
    · by_cases hlt2 : k < 64
      · skip
        --<B
        obtain ⟨n, rfl⟩ : ∃ n, k = n + 16 := ⟨k - 16, by omega⟩
        have hn : n < 48 := by omega
        have hn1 : (n : Int) + 16 < 64 := by omega
        have hn2 : ¬ (n : Int) + 16 < 16 := by omega
        rw [show (((n + 16 : Nat) : Int)) = (n : Int) + 16 from by omega]
        have hwl := wx_len B (n + 16) (by omega)
        have at_ : ∀ i, i < n + 16 → wr.cell? ⟨W.heap.size, i, none⟩ = some (.int .u32 ((ext (words B 16) n).getD i 0)) := fun i hi => by
          rw [kw.out.cell, U32_at (by rw [hwl]; omega), wx_old B n i hi]
        have c1 := at_ (n + 1) (by omega)
        have c14 := at_ (n + 14) (by omega)
        have c0 := at_ n (by omega)
        have c9 := at_ (n + 9) (by omega)
        have c16 : wr.cell? ⟨W.heap.size, n + 16, none⟩ = some (.int .u32 ((wx B (n + 16)).getD (n + 16) 0)) := by rw [kw.out.cell, U32_at (by rw [hwl]; omega)]
        have hnx : nextW (ext (words B 16) n) n = ad (ad (ad ((ext (words B 16) n).getD n 0) (s0f ((ext (words B 16) n).getD (n + 1) 0))) ((ext (words B 16) n).getD (n + 9) 0)) (s1f ((ext (words B 16) n).getD (n + 14) 0)) := rfl
        rw [← next_ref] at hnx
        have Hnx := Lib.hid hnx
        clear hnx hwl at_ hlt hlt2
        generalize (ext (words B 16) n).getD n 0 = a0 at *
        generalize (ext (words B 16) n).getD (n + 1) 0 = a1 at *
        generalize (ext (words B 16) n).getD (n + 9) 0 = a9 at *
        generalize (ext (words B 16) n).getD (n + 14) 0 = a14 at *
        generalize (wx B (n + 16)).getD (n + 16) 0 = a16 at *
        have e15 : (n : Int) + 16 - 15 = ((n + 1 : Nat) : Int) := by omega
        have e2 : (n : Int) + 16 - 2 = ((n + 14 : Nat) : Int) := by omega
        have e16 : (n : Int) + 16 - 16 = ((n : Nat) : Int) := by omega
        have e7 : (n : Int) + 16 - 7 = ((n + 9 : Nat) : Int) := by omega
        go_wp2_with fail
        go_quiet ((go_at_call 92; exact Calls.quiet_of_same (turned_any _ _ _ (by decide))))
        have kv := Lib.hid (kw.out.drewN nq)
        have hbv := below_drewN hb nq
        have d0 : (wr.drewN nq).cell? ⟨W.heap.size, n, none⟩ = some (.int .u32 a0) := c0
        have d9 : (wr.drewN nq).cell? ⟨W.heap.size, n + 9, none⟩ = some (.int .u32 a9) := c9
        have d14 : (wr.drewN nq).cell? ⟨W.heap.size, n + 14, none⟩ = some (.int .u32 a14) := c14
        have d16 : (wr.drewN nq).cell? ⟨W.heap.size, n + 16, none⟩ = some (.int .u32 a16) := c16
        clear c0 c1 c9 c14 c16 kw hb
        generalize wr.drewN nq = V at *
        go_wp2_with fail
        go_quiet ((go_at_call 92; exact Calls.quiet_of_same (turned_any _ _ _ (by decide))))
        have kv2 := Lib.hid (kv.out.drewN nq)
        have hbv2 := below_drewN hbv nq
        have c0 : (V.drewN nq).cell? ⟨W.heap.size, n, none⟩ = some (.int .u32 a0) := d0
        have c9 : (V.drewN nq).cell? ⟨W.heap.size, n + 9, none⟩ = some (.int .u32 a9) := d9
        have c16 : (V.drewN nq).cell? ⟨W.heap.size, n + 16, none⟩ = some (.int .u32 a16) := d16
        clear d0 d9 d14 d16 kv hbv e15 e2 e16 e7
        generalize V.drewN nq = V2 at *
        have f16 := kv2.out.free (n + 16)
        have q0 : IntKind.i64.wrap (n : Int) = (n : Int) := by rw [IntKind.wrap_i64]; omega
        have q9 : IntKind.i64.wrap ((n : Int) + 9) = (n : Int) + 9 := by rw [IntKind.wrap_i64]; omega
        have q16 : IntKind.i64.wrap ((n : Int) + 16) = (n : Int) + 16 := by rw [IntKind.wrap_i64]; omega
        have l0 : (n : Int) < 64 := by omega
        have l9 : (n : Int) + 9 < 64 := by omega
        have g9 : (0 : Int) ≤ (n : Int) + 9 := by omega
        have g16 : (0 : Int) ≤ (n : Int) + 16 := by omega
        have t9 : ((n : Int) + 9).toNat = n + 9 := by omega
        have t16 : ((n : Int) + 16).toNat = n + 16 := by omega
        have e7 : (n : Int) + 16 - 7 = (n : Int) + 9 := by omega
        have e16 : (n : Int) + 16 - 16 = (n : Int) := by omega
        go_wp2_with fail
        go_still_tail 15, (by kernel_rfl)
        have kv3 := Lib.hid (kv2.out.drew)
        have hb3 := hbv2.drew
        have d16 : V2.drew.cell? ⟨W.heap.size, n + 16, none⟩ = some (.int .u32 a16) := c16
        have f16' := kv3.out.free (n + 16)
        clear c0 c9 c16 f16 kv2 hbv2
        change wpList _ _ _ _ _ V2.drew
        generalize V2.drew = V3 at *
        go_wp2_with fail
        go_roundw
        case rel =>
          refine ⟨n + 1 + 16, by omega, congrArg (Value.int .i64) (by omega), Lib.hid ?_, BW_off (Nat.le_refl _) _ hb3⟩
          have h9 := kv3.out.set_ (n + 16) (.int .u32 (nextW (ext (words B 16) n) n))
          rw [U32_set, wx_set B n hn _ rfl, Hnx.out] at h9
          exact h9
        case measure => simp [intOf]; omega
        --B>
      · obtain rfl : k = 64 := by omega
        clear hlt hlt2 hk
        rw [wx_all] at kw
        have hel := ext_len (words B 16) 48
        rw [words_len] at hel
        have Hel := Lib.hid hel
        clear hel
        have cx0 : wr.cell? ⟨g4, 0, none⟩ = some (.int .u32 x0) := BW_cell hb (Hkx.out.cell 0)
        have cx1 : wr.cell? ⟨g4, 1, none⟩ = some (.int .u32 x1) := BW_cell hb (Hkx.out.cell 1)
        have cx2 : wr.cell? ⟨g4, 2, none⟩ = some (.int .u32 x2) := BW_cell hb (Hkx.out.cell 2)
        have cx3 : wr.cell? ⟨g4, 3, none⟩ = some (.int .u32 x3) := BW_cell hb (Hkx.out.cell 3)
        have cx4 : wr.cell? ⟨g4, 4, none⟩ = some (.int .u32 x4) := BW_cell hb (Hkx.out.cell 4)
        have cx5 : wr.cell? ⟨g4, 5, none⟩ = some (.int .u32 x5) := BW_cell hb (Hkx.out.cell 5)
        have cx6 : wr.cell? ⟨g4, 6, none⟩ = some (.int .u32 x6) := BW_cell hb (Hkx.out.cell 6)
        have cx7 : wr.cell? ⟨g4, 7, none⟩ = some (.int .u32 x7) := BW_cell hb (Hkx.out.cell 7)
        have ky := blk1 wr 99 #[.int .u32 x0, .int .u32 x1, .int .u32 x2, .int .u32 x3, .int .u32 x4, .int .u32 x5, .int .u32 x6, .int .u32 x7]
        have kw2 := Lib.hid (kw.out.alloc (.cells #[.int .u32 x0, .int .u32 x1, .int .u32 x2, .int .u32 x3, .int .u32 x4, .int .u32 x5, .int .u32 x6, .int .u32 x7] 99))
        have hb2 := BW_alloc hb (.cells #[.int .u32 x0, .int .u32 x1, .int .u32 x2, .int .u32 x3, .int .u32 x4, .int .u32 x5, .int .u32 x6, .int .u32 x7] 99)
        have hne := Lib.hid (And.intro kw.out.lt hb.size)
        clear kw hb
        go_wp2_with fail
        clear cx0 cx1 cx2 cx3 cx4 cx5 cx6 cx7
        generalize wr.heap.size = gy at *
        generalize wr.alloc (.cells #[.int .u32 x0, .int .u32 x1, .int .u32 x2, .int .u32 x3, .int .u32 x4, .int .u32 x5, .int .u32 x6, .int .u32 x7] 99) = V at *
        generalize hE : ext (words B 16) 48 = E at *
        have HWE := Bx.mk hE
        clear hE
        go_loopw [12] (fun i wi => ∃ (n : Nat) (a b c d e f g h : Int), n ≤ 64 ∧ i = .int .i64 (n : Int) ∧ Hid (Y8.mk a b c d e f g h = rnds (Y8.mk x0 x1 x2 x3 x4 x5 x6 x7) K E n) ∧ Blk wi gy 99 #[.int .u32 a, .int .u32 b, .int .u32 c, .int .u32 d, .int .u32 e, .int .u32 f, .int .u32 g, .int .u32 h] ∧ Hid (Blk wi W.heap.size 109 (U32 E).toArray) ∧ Below W.heap.size W wi) (fun i _ => 64 - (intOf i).toNat)
        case atStart => exact ⟨0, x0, x1, x2, x3, x4, x5, x6, x7, by omega, rfl, rfl, ky, kw2, hb2⟩
        case round =>
          clear ky kw2 hb2
          obtain ⟨n, a, b, c, d, e, f, g', h, hn, rfl, hy, ky, kw, hb⟩ := hrel
          by_cases hnt : n < 64
          · skip
            --<C
            have hn1 : (n : Int) < 64 := by omega
            have cy := fun i => ky.cell i
            go_wp2_with (go_at_call 92; refine (turned_w _ _ _ (by decide)).mono ?_; rintro e w' ⟨rfl, rfl⟩)
            clear cy
            have ckv := BW_cell hb (hK2.out n hnt)
            have cts : wr.cell? ⟨g3, 1, none⟩ = some (.slice (some ⟨gK, 0, none⟩) 64 cK) := BW_cell hb (Hkt.out.cell 1)
            have cwv := (kw.out.cell n).trans (U32_at (l := E) (by rw [Hel.out]; omega))
            have cy := fun i => ky.cell i
            generalize hk' : K.getD n 0 = kk at *
            generalize hw' : E.getD n 0 = ww at *
            have Hk' := Lib.hid hk'
            have Hw' := Lib.hid hw'
            clear hk' hw'
            go_quiet (fail)
            have kyv2 := ky.drewN nq
            have kwv2 := Lib.hid (kw.out.drewN nq)
            have hbv2 := below_drewN hb nq
            clear cy ky kw hb ckv cwv cts
            generalize wr.drewN nq = V3 at *
            generalize hT1 : (((h + bits .xor .u32 (bits .xor .u32 (rotF (-6) e) (rotF (-11) e)) (rotF (-25) e) + bits .xor .u32 (bits .and .u32 e f) (bits .and .u32 (bits .xor .u32 (if IntKind.u32.signed = true then -1 else IntKind.u32.max) e) g') + kk) % 4294967296 + ww) % 4294967296) = t1
            have HT1 := Bx.mk hT1
            clear hT1
            have cy := fun i => kyv2.cell i
            go_upto_region 20 with (fail)
            generalize hT2 : (bits .xor .u32 (bits .xor .u32 (rotF (-2) a) (rotF (-13) a)) (rotF (-22) a) + bits .xor .u32 (bits .xor .u32 (bits .and .u32 a b) (bits .and .u32 a c)) (bits .and .u32 b c)) % 4294967296 = t2
            have HT2 := Bx.mk hT2
            clear hT2
            have Hth : Hid (V3.there gy 0 (yv ((t1 + t2) % 4294967296) a b c ((d + t1) % 4294967296) e f g').size) := fun j hj => by
              rw [Nat.zero_add]
              have hj8 : j < 8 := hj
              exact ⟨by rw [kyv2.cell, Array.getElem?_eq_getElem (by exact hj8)]; rfl, kyv2.free j⟩
            have hsz8 : Hid ((Tryd.prog.info? 99).map (·.size) = some (yv ((t1 + t2) % 4294967296) a b c ((d + t1) % 4294967296) e f g').size) := a8_size
            have hone8 : Hid ((yv ((t1 + t2) % 4294967296) a b c ((d + t1) % 4294967296) e f g').all (·.oneCell') = true) := Lib.hid (by simp [yv, Value.oneCell'])
            have HkyN := Lib.hid (setCells_all kyv2 (yv ((t1 + t2) % 4294967296) a b c ((d + t1) % 4294967296) e f g').toList rfl)
            have HkwN : Hid (Blk (V3.setCells gy 0 (yv ((t1 + t2) % 4294967296) a b c ((d + t1) % 4294967296) e f g').toList) W.heap.size 109 (U32 E).toArray) := Lib.hid (Blk.farCells _ _ _ kwv2.out (Nat.ne_of_lt hne.out.1))
            have HbN : Hid (Below W.heap.size W (V3.setCells gy 0 (yv ((t1 + t2) % 4294967296) a b c ((d + t1) % 4294967296) e f g').toList)) := Lib.hid (below_setCells _ _ _ hbv2 hne.out.2)
            have Honce : Hid True := Lib.hid trivial
            go_wp2_with (clear Honce; refine wpList_store_mid rfl 99 _ _ rfl gy 0 (yv ((t1 + t2) % 4294967296) a b c ((d + t1) % 4294967296) e f g') (by rfl) (by rfl) Hth.out hsz8.out hone8.out ?_; generalize World.setCells V3 gy 0 (yv ((t1 + t2) % 4294967296) a b c ((d + t1) % 4294967296) e f g').toList = V4 at *; clear cy; refine Bx.out ?_)
            refine ⟨?_⟩
            rw [wpList]
            simp only [Exit.then, Exit.inBlock]
            rename_i hK13
            refine hK13 _ _ ?_
            clear hK13 kyv2 kwv2 hbv2 Hth hsz8 hone8
            go_wp2_with fail
            go_roundw
            case rel =>
              (repeat apply Exists.intro)
              refine ⟨⟨n + 1, (t1 + t2) % 4294967296, a, b, c, (d + t1) % 4294967296, e, f, g', by omega, by go_num, ?_, HkyN.out, HkwN, HbN.out⟩, rfl⟩
              refine Lib.hid ?_
              show _ = rnd (rnds _ K E n) (K.getD n 0) (E.getD n 0)
              rw [← hy.out, Hk'.out, Hw'.out, ← HT1.out, ← HT2.out]
              have hc := ch_ref e f g'
              have hm := maj_ref a b c
              unfold xr an at hc hm
              unfold rnd
              simp only [Y8.mk.injEq, and_true, true_and]
              rw [hm, show (if IntKind.u32.signed = true then (-1 : Int) else IntKind.u32.max) = 4294967295 from rfl, hc]
              unfold ad big0 big1 xr
              exact ⟨by omega, by omega⟩
            case measure => simp [intOf]; omega
            --C>
          · obtain rfl : n = 64 := by omega
            clear hnt hn
            have cy := fun i => ky.cell i
            have kx2 := Lib.hid (Hkx.out.on hb)
            have kr2 := Lib.hid (Hkr.out.on hb)
            have hgy := Lib.hid (And.intro (Nat.lt_of_lt_of_le Hkx.out.lt hne.out.2) (Nat.lt_of_lt_of_le Hkr.out.lt hne.out.2))
            have hbw := Lib.hid (Below.trans Hb0.out (hb.mono (by rw [← Hg3.out]; exact Hb0.out.size)))
            clear hb kw
            go_wp2_with fail
            clear cy
            go_loopw [19] (fun i wi => ∃ k : Nat, k ≤ 8 ∧ i = .int .i64 (k : Int) ∧ Hid (Blk wi g4 99 (U32 (addK [x0, x1, x2, x3, x4, x5, x6, x7] [a, b, c, d, e, f, g', h] k)).toArray) ∧ Hid (Blk wi gy 99 (U32 [a, b, c, d, e, f, g', h]).toArray) ∧ Hid (Blk wi g6 99 (U32 [0, 0, 0, 0, 0, 0, 0, 0]).toArray) ∧ Hid (Below g3 w wi)) (fun i _ => 8 - (intOf i).toNat)
            case atStart => exact ⟨0, by omega, rfl, kx2, ky, kr2, hbw⟩
            case round =>
              clear kx2 ky kr2 hbw
              obtain ⟨k, hk, rfl, kx, ky, kr, hb⟩ := hrel
              by_cases hkt : k < 8
              · have hk1 : (k : Int) < 8 := by omega
                have hal := Lib.hid (addK_len [x0, x1, x2, x3, x4, x5, x6, x7] [a, b, c, d, e, f, g', h] k rfl rfl hk)
                have ck := (kx.out.cell k).trans (U32_at (by rw [hal.out]; exact hkt))
                have cy := (ky.out.cell k).trans (U32_at (show k < 8 from hkt))
                have fk := kx.out.free k
                have hset := addK_set [x0, x1, x2, x3, x4, x5, x6, x7] [a, b, c, d, e, f, g', h] k rfl rfl hkt
                have Hset := Bx.mk hset
                have q0 : IntKind.i64.wrap (k : Int) = (k : Int) := by rw [IntKind.wrap_i64]; omega
                clear hset
                generalize (addK [x0, x1, x2, x3, x4, x5, x6, x7] [a, b, c, d, e, f, g', h] k).getD k 0 = xk at *
                generalize ([a, b, c, d, e, f, g', h] : List Int).getD k 0 = yk at *
                go_wp2_with fail
                go_still_tail 9, (by kernel_rfl)
                change wpList _ _ _ _ _ wr.drew
                have kx2 := Lib.hid kx.out.drew
                have ky2 := Lib.hid ky.out.drew
                have kr2 := Lib.hid kr.out.drew
                have hb2 := Lib.hid hb.out.drew
                have ck2 : wr.drew.cell? ⟨g4, k, none⟩ = some (.int .u32 xk) := ck
                have fk2 := kx2.out.free k
                clear ck fk cy kx ky kr hb
                generalize wr.drew = V4 at *
                go_wp2_with fail
                go_roundw
                case rel =>
                  (repeat apply Exists.intro)
                  refine ⟨⟨k + 1, by omega, by go_num, Lib.hid ?_, Lib.hid (ky2.out.far (Nat.ne_of_gt hgy.out.1) _), Lib.hid (kr2.out.far (Nat.ne_of_gt Hord.out.2.1) _), Lib.hid (hb2.out.setCell (Nat.le_of_lt Hord.out.1) _)⟩, rfl⟩
                  have h9 := kx2.out.set_ k (.int .u32 (ad xk yk))
                  rw [U32_set, Hset.out] at h9
                  exact h9
                case measure => simp [intOf]; omega
              · obtain rfl : k = 8 := by omega
                clear hkt hk
                rw [addK_all _ _ rfl rfl] at kx
                have hzl : (U32 (List.zipWith ad [x0, x1, x2, x3, x4, x5, x6, x7] [a, b, c, d, e, f, g', h])).length = 8 := rfl
                have Hcomp : Hid (comp K [x0, x1, x2, x3, x4, x5, x6, x7] B = List.zipWith ad [x0, x1, x2, x3, x4, x5, x6, x7] [a, b, c, d, e, f, g', h]) := by
                  show List.zipWith ad _ (rnds (Y8.mk x0 x1 x2 x3 x4 x5 x6 x7) K (ext (words B 16) 48) 64).l = _
                  rw [HWE.out, ← hy.out]
                  rfl
                generalize List.zipWith ad [x0, x1, x2, x3, x4, x5, x6, x7] [a, b, c, d, e, f, g', h] = Z at *
                have hone0 : ∀ v ∈ U32 Z, v.oneCell' = true := by intro v hv; simp only [U32, List.mem_map] at hv; obtain ⟨_, _, rfl⟩ := hv; rfl
                have hone : Hid ((U32 Z).toArray.all (·.oneCell') = true) := all_oneCell_toArray hone0
                generalize hLL : U32 Z = L at *
                have HLL := Bx.mk hLL
                clear hLL
                have Hr : Hid (wr.rangeAt g4 0 L) := fun j v hj => by rw [Nat.zero_add, kx.out.cell]; simpa using hj
                have Hth : Hid (wr.there g6 0 L.toArray.size) := fun j hj => by
                  rw [List.size_toArray, hzl] at hj
                  rw [Nat.zero_add]
                  exact ⟨by rw [kr.out.cell, U32_at (l := [0, 0, 0, 0, 0, 0, 0, 0]) hj]; rfl, kr.out.free j⟩
                have hsz : Hid ((Tryd.prog.info? 99).map (·.size) = some L.length) := by rw [hzl]; exact a8_size
                have hsz2 : Hid ((Tryd.prog.info? 99).map (·.size) = some L.toArray.size) := by rw [List.size_toArray, hzl]; exact a8_size
                have ko := Lib.hid (setCells_all kr.out L (by rw [hzl]; rfl))
                have hbf := Lib.hid (below_setCells L 0 _ hb.out (Nat.le_of_lt (Nat.lt_trans Hord.out.1 Hord.out.2.1)))
                clear kx ky kr hzl
                go_wp2_with (first | (refine wpList_load_mid rfl 99 _ rfl g4 0 rfl L _ Hr.out Tryd.underlying99 rfl hsz.out ?_) | (refine wpList_store_mid rfl 99 _ _ rfl g6 0 L.toArray rfl rfl Hth.out hsz2.out hone.out ?_))
                refine bodyPost_ret (v := .agg L.toArray) (results_cell_row Tryd.results78 _ _ g6 99 _ (0, 0) _ (by rfl) ko.out Tryd.underlying99 rfl hsz2.out) rfl ⟨by rw [Hcomp.out, HLL.out], by rw [Hg3.out]; exact hbf.out⟩
end Go.Proofs.YtbimnfmjgmfijaaDoor

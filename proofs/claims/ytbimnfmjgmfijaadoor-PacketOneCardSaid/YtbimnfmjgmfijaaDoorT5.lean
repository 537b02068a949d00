/- Contract of the document's answer for the hash: the sum of a text, with tables. -/
import Derived.Test.YtbimnfmjgmfijaaDoorT4
import Derived.Test.YtbimnfmjgmfijaaDoorOb
import Derived.StillTailTactics
namespace Go.Proofs.YtbimnfmjgmfijaaDoor
open Go.RowKit
attribute [local go_sem ↓] Go.wp_at_zero Go.wp_at_succ
def zs (M : List Nat) (j : Nat) : List Nat := M ++ 128 :: List.replicate j 0
theorem zs_len (M : List Nat) (j : Nat) : (zs M j).length = M.length + 1 + j := by simp [zs]; omega
theorem zs_succ (M : List Nat) (j : Nat) : U8s (zs M (j + 1)) = U8s (zs M j) ++ [.int .u8 0] := by
  simp [zs, U8s, List.replicate_succ']
theorem zs_zero (M : List Nat) : U8s (zs M 0) = U8s M ++ [.int .u8 128] := by simp [zs, U8s]
theorem pad_zs (M : List Nat) : pad M = zs M ((119 - M.length % 64) % 64) ++ len8 (8 * M.length) := by
  unfold pad zs
  simp
theorem U8s_app (a b : List Nat) : U8s (a ++ b) = U8s a ++ U8s b := by simp [U8s]
theorem len8_take (N n : Nat) (h : n < 8) : U8s ((len8 N).take (8 - n)) = U8s ((len8 N).take (8 - (n + 1))) ++ [.int .u8 ((N / 256 ^ n % 256 : Nat) : Int)] := by
  have h8 : (len8 N).length = 8 := by simp [len8]
  rw [show 8 - n = (8 - (n + 1)) + 1 by omega, U8s_take_succ _ _ (by omega)]
  have e : (len8 N).getD (8 - (n + 1)) 0 = N / 256 ^ n % 256 := by
    rw [List.getD_eq_getElem?_getD, List.getElem?_eq_getElem (by omega)]
    simp only [len8, List.getElem_map, List.getElem_range, Option.getD_some]
    rw [show 7 - (8 - (n + 1)) = n by omega]
  rw [e]
def lenV : Value → Nat
  | .slice _ n _ => n
  | _ => 0
theorem tmod64 (n : Nat) : (n : Int).tmod 64 = ((n % 64 : Nat) : Int) := by rw [Int.tmod_eq_emod_of_nonneg (by omega)]; omega
def xs8 (k : Nat) : List Int := BG.take k ++ List.replicate (8 - k) 0
theorem xs8_len (k : Nat) (hk : k ≤ 8) : (xs8 k).length = 8 := by
  unfold xs8
  rw [List.length_append, List.length_take, List.length_replicate, show BG.length = 8 from rfl]
  omega
theorem xs8_set : ∀ k, k < 8 → (xs8 k).set k (BG.getD k 0) = xs8 (k + 1) := by decide
theorem pad_lt (M : List Nat) (h : ∀ b ∈ M, b < 256) : ∀ i, (pad M).getD i 0 < 256 := by
  have h1 : ∀ b ∈ pad M, b < 256 := by
    intro b hb
    simp only [pad, List.mem_append, List.mem_cons, List.mem_replicate] at hb
    rcases hb with hb | ((hb | hb) | hb)
    · exact h b hb
    · omega
    · omega
    · exact len8_lt _ b hb
  intro i
  rcases Nat.lt_or_ge i (pad M).length with hi | hi
  · rw [List.getD_eq_getElem?_getD, List.getElem?_eq_getElem hi]
    exact h1 _ (List.getElem_mem hi)
  · rw [List.getD_eq_getElem?_getD, List.getElem?_eq_none hi]
    decide
/-- What the loop over the blocks needs. -/
def RS (w0 : World) (gt gr gb gx gB gK cB cK : Nat) (P : List Nat) (X : List Int) (w : World) : Prop :=
  Blk w gt 95 #[.slice (some ⟨gB, 0, none⟩) 8 cB, .slice (some ⟨gK, 0, none⟩) 64 cK] ∧ Blk w gr 66 (U8s z32).toArray ∧ (∀ i, i < P.length → w.cell? ⟨gb, i, none⟩ = some (.int .u8 ((P.getD i 0 : Nat) : Int))) ∧ Blk w gx 99 (U32 X).toArray ∧ Below w0.heap.size w0 w
theorem RS.on {w0 w w' : World} {gt gr gb gx gB gK cB cK : Nat} {P : List Nat} {X : List Int} (h : RS w0 gt gr gb gx gB gK cB cK P X w) (hb : Below w.heap.size w w') : RS w0 gt gr gb gx gB gK cB cK P X w' :=
  ⟨h.1.on hb, h.2.1.on hb, fun i hi => BW_cell hb (h.2.2.1 i hi), h.2.2.2.1.on hb, BW_on h.2.2.2.2 hb⟩
set_option maxHeartbeats 4000000 in
set_option maxRecDepth 100000 in
theorem rsum_any (gB gK cB cK : Nat) (t : ByteArray) (w : World) (hsz : t.size ≤ 4398046511104)
    (hBg : Hid (∀ i, i < 8 → w.cell? ⟨gB, i, none⟩ = some (.int .u32 (BG.getD i 0)))) (hK : Hid (∀ i, i < 64 → w.cell? ⟨gK, i, none⟩ = some (.int .u32 (KK.getD i 0)))) :
    Calls Tryd.prog 71 #[.agg #[.slice (some ⟨gB, 0, none⟩) 8 cB, .slice (some ⟨gK, 0, none⟩) 64 cK], .string t] w fun e w' => e = .returned (shaV (bysN t)) ∧ Below w.heap.size w w' := by
  obtain ⟨i0, hi0, iz0, iz1, iz2⟩ := info_parts infoU8
  go_enter Tryd.func71, Tryd.ntmps71
  have kt := (blk1 w 95 #[.slice (some ⟨gB, 0, none⟩) 8 cB, .slice (some ⟨gK, 0, none⟩) 64 cK]).alloc (.cells (U8s z32).toArray 66)
  have kr := blk1 (w.alloc (.cells #[.slice (some ⟨gB, 0, none⟩) 8 cB, .slice (some ⟨gK, 0, none⟩) 64 cK] 95)) 66 (U8s z32).toArray
  have hb0 := BW_alloc (BW_alloc (BW_refl w) (.cells #[.slice (some ⟨gB, 0, none⟩) 8 cB, .slice (some ⟨gK, 0, none⟩) 64 cK] 95)) (.cells (U8s z32).toArray 66)
  go_upto_region 1 with (fail)
  change Code.wp _ _ _ _ ((w.alloc (.cells #[.slice (some ⟨gB, 0, none⟩) 8 cB, .slice (some ⟨gK, 0, none⟩) 64 cK] 95)).alloc (.cells (U8s z32).toArray 66))
  generalize (w.alloc (.cells #[.slice (some ⟨gB, 0, none⟩) 8 cB, .slice (some ⟨gK, 0, none⟩) 64 cK] 95)).alloc (.cells (U8s z32).toArray 66) = W at *
  have hg3 : w.heap.size + 1 = (w.alloc (.cells #[.slice (some ⟨gB, 0, none⟩) 8 cB, .slice (some ⟨gK, 0, none⟩) 64 cK] 95)).heap.size := by simp
  rw [← hg3] at kr
  clear hg3
  generalize hgr : w.heap.size + 1 = gr at *
  generalize hgt : w.heap.size = gt at *
  have Hg := Lib.hid (And.intro hgr hgt)
  clear hgr hgt
  have hcv := Lib.run_convert_string_bytes (P := Tryd.prog) W 9 37 5 t Tryd.underlying9 Tryd.underlying37 Tryd.underlying5
  have hown := bytes_own W 5 t (grownCap_le_maxLen W t.size 0 5 (by unfold maxLen; omega))
  rw [← U8s_bysN] at hown
  have hb1 := bytes_below W 5 t
  generalize Lib.bytesWorld W 5 t = W1 at *
  generalize hcap : grownCap W t.size 0 5 = cap0 at *
  clear hcap
  have Hkt := Lib.hid kt
  have Hkr := Lib.hid kr
  have Hb0 := Lib.hid hb0
  have hML := bysN_len t
  generalize hJ : (119 - t.size % 64) % 64 = J
  have Hpad := Lib.hid (pad_zs (bysN t))
  rw [hML, hJ] at Hpad
  clear kt kr hb0
  go_wp2_with (at_builtin; go_must (refine wpList_pushB rfl _ _ 37 rfl W.heap.size 5 i0 (.int .u8 0) 1 Tryd.underlying37 hi0 iz0 iz1 iz2 rfl _ _ _ rfl hown (.int .u8 128) _ rfl rfl rfl (by unfold maxLen; omega) (by omega) (by have := hb1.size; omega) ?_); intro v1 w2 hown2 hb2 hz2)
  rw [← zs_zero] at hown2
  have hb3 : Below W.heap.size W w2 := hb1.trans hb2
  clear hown hb1 hb2 hz2 hcv
  generalize hgW : W.heap.size = gW at *
  have HgW := Lib.hid hgW
  clear hgW
  go_loopw [5] (fun v wi => ∃ j : Nat, j ≤ J ∧ ownB wi gW 5 v (t.size + 1 + j) (U8s (zs (bysN t) j)) ∧ Below gW W wi) (fun v _ => t.size + 1 + J - lenV v)
  case atStart => exact ⟨0, by omega, hown2, hb3⟩
  case round =>
    clear hown2 hb3
    obtain ⟨j, hj, hown, hb⟩ := hrel
    have hz := hb.size
    rw [HgW.out] at hz
    obtain ⟨g, cap, rfl, hg1, hg2, hg4, hg5, _⟩ := hown.form
    have tm := tmod64 (t.size + 1 + j)
    by_cases h0 : j < J
    · skip
      --<A
      have hx : (t.size + 1 + j) % 64 ≠ 56 := by omega
      have hs := Lib.hid (zs_succ (bysN t) j)
      generalize (t.size + 1 + j) % 64 = x at *
      have hx2 : ¬ (x : Int) = 56 := by omega
      generalize hn : t.size + 1 + j = n at *
      go_wp2_with (at_builtin; go_must (refine wpList_pushB rfl _ _ 37 rfl gW 5 i0 (.int .u8 0) 1 Tryd.underlying37 hi0 iz0 iz1 iz2 rfl _ _ _ rfl hown (.int .u8 0) _ rfl rfl rfl (by unfold maxLen; omega) (by omega) (by omega) ?_); intro v1 w2 hown2 hb2 hz2)
      rw [← hs.out] at hown2
      obtain ⟨g2, cap2, rfl, _⟩ := hown2.form
      go_roundw
      case rel => exact ⟨j + 1, by omega, by rw [← Nat.add_assoc, hn]; exact hown2, hb.trans hb2⟩
      case measure => simp [lenV]; omega
      --A>
    · skip
      --<B
      obtain rfl : j = J := by omega
      have hx : (t.size + 1 + j) % 64 = 56 := by omega
      rw [hx] at tm
      clear hx h0 hj
      generalize hn : t.size + 1 + j = n at *
      have wr1 : IntKind.u64.wrap (t.size : Int) = (t.size : Int) := by rw [IntKind.wrap_u64]; omega
      have wr2 : IntKind.u64.wrap ((t.size : Int) * 8) = (t.size : Int) * 8 := by rw [IntKind.wrap_u64]; omega
      have hM1 : (zs (bysN t) j).length = n := by rw [zs_len, hML, hn]
      generalize hM1' : zs (bysN t) j = M1 at *
      go_wp2_with fail
      clear wr1 wr2 tm
      have hb1 := hb
      go_loopw [5, 7] (fun v x wi => ∃ m : Nat, m ≤ 8 ∧ x = .int .i64 ((m : Int) - 1) ∧ ownB wi gW 5 v (n + (8 - m)) (U8s (M1 ++ (len8 (8 * t.size)).take (8 - m))) ∧ Below gW W wi) (fun _ x _ => (intOf x + 1).toNat)
      case atStart => exact ⟨8, by omega, rfl, by rw [Nat.sub_self, List.take_zero, List.append_nil]; exact hown, hb1⟩
      case round =>
        clear hown hb hb1 hg1 hg2 hg4 hg5 hz
        obtain ⟨m, hm, rfl, hown, hb⟩ := hrel
        have hz := hb.size
        rw [HgW.out] at hz
        obtain ⟨g, cap, rfl, hg1, hg2, hg4, hg5, hcl⟩ := hown.form
        rcases m with _ | m
        · skip
          --<C
          rw [show ((0 : Nat) : Int) - 1 = -1 from rfl]
          have h8 : (len8 (8 * t.size)).length = 8 := by simp [len8]
          rw [Nat.sub_zero, List.take_of_length_le (by rw [h8]; exact Nat.le_refl _), ← Hpad.out] at hcl
          have hPl : (pad (bysN t)).length = n + 8 := by rw [Hpad.out, List.length_append, h8, hM1]
          have hPd : (n + 8) % 64 = 0 := by omega
          have hn0 : n + 8 ≤ 4398046511200 := by omega
          have Hsha := Lib.hid (show sha (bysN t) = bytesOf (blks KK BG (pad (bysN t)) ((pad (bysN t)).length / 64)) from rfl)
          have Hlt := Lib.hid (pad_lt (bysN t) (bysN_lt t))
          clear Hpad hown hm hJ hn hM1' hM1 h8 hML
          generalize pad (bysN t) = P at *
          have HPl := Lib.hid hPl
          have hbc : Hid (∀ i, i < P.length → wr.cell? ⟨g, i, none⟩ = some (.int .u8 ((P.getD i 0 : Nat) : Int))) := fun i hi => hcl i _ (by
            have := U8s_at hi
            simpa using this)
          clear hcl
          have hb9 : Below W.heap.size W wr := by rw [HgW.out]; exact hb
          have hb09 : Below w.heap.size w W := by rw [Hg.out.2]; exact Hb0.out
          have HB2 : Hid (∀ i, i < 8 → wr.cell? ⟨gB, i, none⟩ = some (.int .u32 (BG.getD i 0))) := fun i hi => BW_cell hb9 (BW_cell hb09 (hBg.out i hi))
          have HK2 : Hid (∀ i, i < 64 → wr.cell? ⟨gK, i, none⟩ = some (.int .u32 (KK.getD i 0))) := fun i hi => BW_cell hb9 (BW_cell hb09 (hK.out i hi))
          have Hkt2 := Lib.hid (Hkt.out.on hb9)
          have Hkr2 := Lib.hid (Hkr.out.on hb9)
          have Hbw := Lib.hid (BW_on hb09 hb9)
          clear hb9 hb09 hBg hK Hkt Hkr Hb0 hb HgW hz
          generalize wr = w9 at *
          have kx := blk1 w9 99 (U32 (xs8 0)).toArray
          have hb3 := Lib.hid (BW_alloc (BW_refl w9) (.cells (U32 (xs8 0)).toArray 99))
          go_wp2_with fail
          change Code.wp _ _ _ _ (w9.alloc (.cells (U32 (xs8 0)).toArray 99))
          generalize w9.alloc (.cells (U32 (xs8 0)).toArray 99) = V at *
          have Hgxb := Lib.hid hg2
          have Hgxr := Lib.hid (And.intro Hkt2.out.lt Hkr2.out.lt)
          generalize hgx : w9.heap.size = gx at *
          have Hgx := Lib.hid hgx
          clear hgx
          go_loopw [9] (fun i wi => ∃ k : Nat, k ≤ 8 ∧ i = .int .i64 (k : Int) ∧ Blk wi gx 99 (U32 (xs8 k)).toArray ∧ Hid (Below gx w9 wi)) (fun i _ => 8 - (intOf i).toNat)
          case atStart => exact ⟨0, by omega, rfl, kx, hb3⟩
          case round =>
            clear kx hb3
            obtain ⟨k, hk, rfl, kx, hb⟩ := hrel
            by_cases h0 : k < 8
            · skip
              --<E
              have hk1 : (k : Int) < 8 := by omega
              have hbx : Below w9.heap.size w9 wr := by rw [Hgx.out]; exact hb.out
              have ct := (Hkt2.out.on hbx).cell 0
              have cb := BW_cell hbx (HB2.out k h0)
              have cx := (kx.cell k).trans (U32_at (l := xs8 k) (by rw [xs8_len k hk]; exact h0))
              have fx := kx.free k
              have Hset := Lib.hid (xs8_set k h0)
              clear hbx
              generalize BG.getD k 0 = bk at *
              generalize (xs8 k).getD k 0 = xk at *
              go_wp2_with fail
              go_roundw
              case rel =>
                refine ⟨k + 1, by omega, by go_num, ?_, Lib.hid (hb.out.setCell (Nat.le_refl _) _)⟩
                have h9 := kx.set_ k (.int .u32 bk)
                rw [U32_set, Hset.out] at h9
                exact h9
              case measure => simp [intOf]; omega
              --E>
            · obtain rfl : k = 8 := by omega
              clear h0 hk
              have kx0 : Blk wr gx 99 (U32 (blks KK BG P 0)).toArray := kx
              go_wp2_with fail
              go_loopw [10] (fun i wi => ∃ k : Nat, 64 * k ≤ n + 8 ∧ i = .int .i64 ((64 * k : Nat) : Int) ∧ Blk wi gx 99 (U32 (blks KK BG P k)).toArray ∧ Hid (Below gx w9 wi)) (fun i _ => n + 8 - (intOf i).toNat)
              case atStart => exact ⟨0, by omega, rfl, kx0, hb⟩
              case round =>
                clear kx kx0 hb
                obtain ⟨k, hk, rfl, kx, hb⟩ := hrel
                by_cases h0 : 64 * k < n + 8
                · skip
                  --<F
                  have h1 : 64 * k + 64 ≤ n + 8 := by omega
                  have Hnx := Lib.hid (show blks KK BG P (k + 1) = comp KK (blks KK BG P k) ((P.drop (64 * k)).take 64) from rfl)
                  have hXl := blks_len KK BG rfl P k
                  have hYl := blks_len KK BG rfl P (k + 1)
                  generalize blks KK BG P k = X at *
                  generalize hY : blks KK BG P (k + 1) = Y at *
                  have HY := Bx.mk hY
                  clear hY
                  obtain ⟨x0, x1, x2, x3, x4, x5, x6, x7, rfl⟩ : ∃ x0 x1 x2 x3 x4 x5 x6 x7, X = [x0, x1, x2, x3, x4, x5, x6, x7] := by
                    match X, hXl with
                    | [x0, x1, x2, x3, x4, x5, x6, x7], _ => exact ⟨x0, x1, x2, x3, x4, x5, x6, x7, rfl⟩
                  have hbx : Below w9.heap.size w9 wr.drew := by rw [Hgx.out]; exact hb.out.drew
                  have Hbl : Hid (((P.drop (64 * k)).take 64).length = 64) := Lib.hid (by rw [List.length_take, List.length_drop, HPl.out]; omega)
                  have Hbi : Hid (∀ i, i < 64 → ((P.drop (64 * k)).take 64).getD i 0 = P.getD (64 * k + i) 0) := Lib.hid (fun i hi => by
                    rw [List.getD_eq_getElem?_getD, List.getElem?_take, if_pos hi, List.getElem?_drop, ← List.getD_eq_getElem?_getD])
                  have Hb8 : Hid (∀ i, ((P.drop (64 * k)).take 64).getD i 0 < 256) := Lib.hid (fun i => by
                    rcases Nat.lt_or_ge i 64 with hi | hi
                    · rw [Hbi.out i hi]; exact Hlt.out _
                    · rw [List.getD_eq_getElem?_getD, List.getElem?_eq_none (by rw [Hbl.out]; exact hi)]; decide)
                  have Hbc : Hid (∀ i, i < 64 → wr.drew.cell? ⟨g, 64 * k + i, none⟩ = some (.int .u8 ((((P.drop (64 * k)).take 64).getD i 0 : Nat) : Int))) := Lib.hid (fun i hi => by
                    rw [Hbi.out i hi]
                    exact BW_cell hbx (hbc.out (64 * k + i) (by rw [HPl.out]; omega)))
                  generalize (P.drop (64 * k)).take 64 = B at *
                  have HKw : Hid (∀ i, i < 64 → wr.drew.cell? ⟨gK, i, none⟩ = some (.int .u32 (KK.getD i 0))) := Lib.hid (fun i hi => BW_cell hbx (HK2.out i hi))
                  have ct0 : wr.cell? ⟨gt, 0, none⟩ = some (.slice (some ⟨gB, 0, none⟩) 8 cB) := (Hkt2.out.on hbx).cell 0
                  have ct1 : wr.cell? ⟨gt, 1, none⟩ = some (.slice (some ⟨gK, 0, none⟩) 64 cK) := (Hkt2.out.on hbx).cell 1
                  have cx0 : wr.cell? ⟨gx, 0, none⟩ = some (.int .u32 x0) := kx.cell 0
                  have cx1 : wr.cell? ⟨gx, 1, none⟩ = some (.int .u32 x1) := kx.cell 1
                  have cx2 : wr.cell? ⟨gx, 2, none⟩ = some (.int .u32 x2) := kx.cell 2
                  have cx3 : wr.cell? ⟨gx, 3, none⟩ = some (.int .u32 x3) := kx.cell 3
                  have cx4 : wr.cell? ⟨gx, 4, none⟩ = some (.int .u32 x4) := kx.cell 4
                  have cx5 : wr.cell? ⟨gx, 5, none⟩ = some (.int .u32 x5) := kx.cell 5
                  have cx6 : wr.cell? ⟨gx, 6, none⟩ = some (.int .u32 x6) := kx.cell 6
                  have cx7 : wr.cell? ⟨gx, 7, none⟩ = some (.int .u32 x7) := kx.cell 7
                  have kxd := Lib.hid kx.drew
                  have hbd := Lib.hid hb.out.drew
                  have Hk := Lib.hid hk
                  generalize ha : 64 * k = a at *
                  have ha2 : (a : Int) < (n : Int) + 8 := by omega
                  have ha3 : IntKind.i64.wrap ((a : Int) + 64) = (a : Int) + 64 := by rw [IntKind.wrap_i64]; omega
                  have ha8 : ((a : Int) + 64).toNat = a + 64 := by omega
                  have ha9 : ¬ cap = a := by omega
                  have ha10 : (0 : Int) ≤ (a : Int) + 64 := by omega
                  have ha4 : (a : Int) ≤ (a : Int) + 64 := by omega
                  have ha5 : a + 64 ≤ cap := by omega
                  have ha6 : (a : Int) + 64 ≤ (cap : Int) := by omega
                  have ha7 : (0 : Int) ≤ (a : Int) := by omega
                  clear hbx kx hb hk h0 hXl
                  go_wp2_with fail
                  go_still_tail 7, (by kernel_rfl)
                  change wpList _ _ _ _ _ wr.drew
                  have Ha := Bx.mk ha
                  clear ha ha2 ha3 ha4 ha5 ha6 ha7 ha8 ha9 ha10 ct0 ct1 cx0 cx1 cx2 cx3 cx4 cx5 cx6 cx7
                  generalize wr.drew = V2 at *
                  have hzl : (U32 Y).length = 8 := by unfold U32; rw [List.length_map, hYl]
                  have hone0 : ∀ v ∈ U32 Y, v.oneCell' = true := by intro v hv; simp only [U32, List.mem_map] at hv; obtain ⟨_, _, rfl⟩ := hv; rfl
                  have hone : Hid ((U32 Y).toArray.all (·.oneCell') = true) := all_oneCell_toArray hone0
                  generalize hLL : U32 Y = L at *
                  have HLL := Bx.mk hLL
                  have hsz2 : Hid ((Tryd.prog.info? 99).map (·.size) = some L.toArray.size) := by rw [List.size_toArray, hzl]; exact a8_size
                  have hsl := Lib.hid hzl
                  clear hLL hone0 hYl hzl
                  go_wp2_with (first | (go_at_call 78; refine (rblock_any _ _ _ _ _ _ _ _ _ _ _ _ _ _ _ _ B KK _ Hbl.out Hb8.out HKw Hbc).mono ?_; rw [← Hnx.out, HLL.out]; rintro e w2 ⟨rfl, hbk⟩; have kx2 := Lib.hid (kxd.out.on hbk); have hb2 := Lib.hid (hbd.out.trans (hbk.mono (Nat.le_of_lt kxd.out.lt))); have Hth : Hid (w2.there gx 0 L.toArray.size) := Lib.hid (fun j hj => by rw [List.size_toArray, hsl.out] at hj; rw [Nat.zero_add]; exact ⟨by rw [kx2.out.cell, U32_at (l := [x0, x1, x2, x3, x4, x5, x6, x7]) hj]; rfl, kx2.out.free j⟩); clear hbk kxd hbd) | (refine wpList_store_mid rfl 99 _ _ rfl gx 0 L.toArray rfl rfl Hth.out hsz2.out hone.out ?_))
                  have kx3 := setCells_all kx2.out L (by rw [hsl.out]; rfl)
                  have hb3 := Lib.hid (below_setCells L 0 _ hb2.out (Nat.le_refl _))
                  generalize World.setCells w2 gx 0 L.toArray.toList = w3 at *
                  have ha := Ha.out
                  go_roundw
                  case rel =>
                    (repeat apply Exists.intro)
                    refine ⟨⟨k + 1, by omega, congrArg (Value.int .i64) (by omega), by rw [HY.out, HLL.out]; exact kx3, hb3⟩, rfl⟩
                  case measure => simp [intOf]; omega
                  --F>
                · have hk2 : 64 * k = n + 8 := by omega
                  have hPk : P.length / 64 = k := by rw [HPl.out]; omega
                  rw [hPk] at Hsha
                  clear h0 hPk hk hPd HB2 HK2 Hlt hbc Hkt2
                  rw [hk2]
                  have hX := Lib.hid (blks_len KK BG rfl P k)
                  generalize blks KK BG P k = X at *
                  have hbx : Below w9.heap.size w9 wr := by rw [Hgx.out]; exact hb.out
                  have kr := Hkr2.out.on hbx
                  have hbw := BW_on Hbw.out hbx
                  have kq := blk1 wr 66 (U8s (bytesP X 0)).toArray
                  have kx2 := kx.alloc (.cells (U8s (bytesP X 0)).toArray 66)
                  have kr2 := kr.alloc (.cells (U8s (bytesP X 0)).toArray 66)
                  have hb2 := BW_alloc hbw (.cells (U8s (bytesP X 0)).toArray 66)
                  have hgq := Lib.hid (And.intro kx.lt (And.intro kr.lt hbw.size))
                  have hgr2 : Hid (w.heap.size ≤ gr) := by rw [Hg.out.2, ← Hg.out.1]; exact Nat.le_succ _
                  clear hbx kr hbw kx hb hk2 Hbw Hkr2
                  go_wp2_with fail
                  generalize wr.heap.size = gq at *
                  go_loopw [12] (fun i wi => ∃ k : Nat, k ≤ 32 ∧ i = .int .i64 (k : Int) ∧ Hid (Blk wi gq 66 (U8s (bytesP X k)).toArray) ∧ Hid (Blk wi gx 99 (U32 X).toArray) ∧ Blk wi gr 66 (U8s z32).toArray ∧ Below w.heap.size w wi) (fun i _ => 32 - (intOf i).toNat)
                  case atStart => exact ⟨0, by omega, rfl, by rw [bytesP_zero]; rw [bytesP_zero] at kq; exact kq, by rw [bytesP_zero] at kx2; exact kx2, by rw [bytesP_zero] at kr2; exact kr2, by rw [bytesP_zero] at hb2; exact hb2⟩
                  case round =>
                    clear kq kx2 kr2 hb2
                    obtain ⟨k, hk, rfl, kq, kE, kO, hb⟩ := hrel
                    by_cases hkt : k < 32
                    · skip
                      --<G
                      have hk1 : (k : Int) < 32 := by omega
                      have hq : (k : Int).tdiv 4 = ((k / 4 : Nat) : Int) := by rw [Int.tdiv_eq_ediv_of_nonneg (by omega)]; omega
                      have hr : (k : Int).tmod 4 = ((k % 4 : Nat) : Int) := by rw [Int.tmod_eq_emod_of_nonneg (by omega)]; omega
                      have hq8 : k / 4 < 8 := by omega
                      have hset := Lib.hid (bytesP_set X k)
                      have ce := (kE.out.cell (k / 4)).trans (U32_at (l := X) (by rw [hX.out]; exact hq8))
                      have cq := (kq.out.cell k).trans (U8s_at (l := bytesP X k) (by rw [bytesP_len]; exact hkt))
                      have fq := kq.out.free k
                      have hr4 : k % 4 < 4 := Nat.mod_lt _ (by decide)
                      generalize k / 4 = q at *
                      generalize k % 4 = r at *
                      have e24 : (24 : Int) - 8 * (r : Int) = ((24 - 8 * r : Nat) : Int) := by omega
                      generalize (bytesP X k).getD k 0 = xo at *
                      generalize X.getD q 0 = xq at *
                      go_wp2_with fail
                      go_roundw
                      case rel =>
                        refine ⟨k + 1, by omega, by go_num, Lib.hid ?_, Lib.hid (kE.out.far (p := ⟨gq, k, none⟩) (Nat.ne_of_lt hgq.out.1) _), kO.far (p := ⟨gq, k, none⟩) (Nat.ne_of_lt hgq.out.2.1) _, BW_off (p := ⟨gq, k, none⟩) hgq.out.2.2 _ hb⟩
                        have h9 := kq.out.set_ k (.int .u8 (((xq / 2 ^ (24 - 8 * r) % 256).toNat : Nat) : Int))
                        have e : (((xq / 2 ^ (24 - 8 * r) % 256).toNat : Nat) : Int) = xq / 2 ^ (24 - 8 * r) % 256 := Int.toNat_of_nonneg (Int.emod_nonneg _ (by decide))
                        rw [U8s_set, hset.out] at h9
                        rw [e] at h9
                        exact h9
                      case measure => simp [intOf]; omega
                      --G>
                    · obtain rfl : k = 32 := by omega
                      rw [bytesP_all] at kq
                      have hl32 : (U8s (bytesOf X)).length = 32 := by simp [U8s, bytesOf]
                      have Hr : Hid (wr.rangeAt gq 0 (U8s (bytesOf X))) := fun j v hj => by rw [Nat.zero_add, kq.out.cell]; simpa using hj
                      have Hth : Hid (wr.there gr 0 (U8s (bytesOf X)).toArray.size) := fun j hj => by
                        rw [List.size_toArray, hl32] at hj
                        rw [Nat.zero_add]
                        exact ⟨by rw [kO.cell, U8s_at (by unfold z32; rw [List.length_replicate]; exact hj)]; rfl, kO.free j⟩
                      have hsz : Hid ((Tryd.prog.info? 66).map (·.size) = some (U8s (bytesOf X)).length) := by rw [hl32]; exact b32_size
                      have hsz2 : Hid ((Tryd.prog.info? 66).map (·.size) = some (U8s (bytesOf X)).toArray.size) := by rw [List.size_toArray, hl32]; exact b32_size
                      have hone : Hid ((U8s (bytesOf X)).toArray.all (·.oneCell') = true) := all_oneCell_toArray (U8s_one _)
                      have ko := Lib.hid (setCells_all kO (U8s (bytesOf X)) (by rw [hl32]; rfl))
                      have hbf := below_setCells (U8s (bytesOf X)) 0 _ hb hgr2.out
                      have Hl32 := Lib.hid hl32
                      clear kq kE kO hl32
                      go_wp2_with (first | (refine wpList_load_mid rfl 66 _ rfl gq 0 rfl (U8s (bytesOf X)) _ Hr.out Tryd.underlying66 rfl hsz.out ?_) | (refine wpList_store_mid rfl 66 _ _ rfl gr 0 (U8s (bytesOf X)).toArray rfl rfl Hth.out hsz2.out hone.out ?_))
                      refine bodyPost_ret (v := .agg (U8s (bytesOf X)).toArray) (results_cell_row Tryd.results71 _ _ gr 66 _ (0, 0) _ (by rfl) ko.out Tryd.underlying66 rfl hsz2.out) rfl ⟨by unfold shaV; rw [Hsha.out], hbf⟩
          --C>
        · skip
          --<D
          rw [show ((m + 1 : Nat) : Int) - 1 = (m : Int) by omega]
          have hs := Lib.hid (len8_take (8 * t.size) m (by omega))
          have w1 : wrap64 (8 * (m : Int)) = 8 * (m : Int) := by unfold wrap64; omega
          have w2 : IntKind.u64.wrap (8 * (m : Int)) = 8 * (m : Int) := by rw [IntKind.wrap_u64]; omega
          have hlv := Lib.hid (len_val t.size m)
          have g0 : (0 : Int) ≤ (m : Int) := by omega
          have hk0 : t.size + 73 ≤ 4398046511200 := by omega
          generalize hk : n + (8 - (m + 1)) = k at *
          have hkb : k ≤ 4398046511200 := by omega
          clear hcl
          go_wp2_with (at_builtin; go_must (refine wpList_pushB rfl _ _ 37 rfl gW 5 i0 (.int .u8 0) 1 Tryd.underlying37 hi0 iz0 iz1 iz2 rfl _ _ _ rfl hown (.int .u8 ((t.size : Int) * 8 / 2 ^ (8 * m) % 256)) _ rfl rfl rfl (by unfold maxLen; omega) (by omega) (by omega) ?_); intro v1 w2 hown2 hb2 hz2)
          rw [hlv.out, U8s_app, List.append_assoc, ← hs.out, ← U8s_app] at hown2
          go_roundw
          case rel => exact ⟨m, by omega, by go_num, by rw [show n + (8 - m) = k + 1 by omega]; exact hown2, hb.trans hb2⟩
          case measure => simp [intOf]
          --D>
      --B>
end Go.Proofs.YtbimnfmjgmfijaaDoor

/- The seal of texts by a sealer, or by none. -/
import Derived.Test.YtidceockbjeaoaaDoorS3
namespace Go.Proofs.YtidceockbjeaoaaDoor
open Go.RowKit
attribute [local go_sem ↓] Go.wp_at_zero Go.wp_at_succ
theorem strs2 (w : World) (s1 s2 : ByteArray) : Strs (w.alloc (.cells #[.string s1, .string s2] 9)) (.slice (some ⟨w.heap.size, 0, none⟩) 2 2) [s1, s2] := ⟨_, 2, rfl, fun _ => ⟨_, _, rfl, fun i hi => by
    have : i = 0 ∨ i = 1 := by simp at hi; omega
    rcases this with rfl | rfl <;> (rw [(blk1 w 9 #[.string s1, .string s2]).cell]; rfl)⟩⟩
theorem z64_lt : ∀ b ∈ z64, b < 256 := by
  intro b hb
  have := (List.mem_replicate.1 hb).2
  omega
set_option maxHeartbeats 4000000 in
set_option maxRecDepth 100000 in
theorem sseal_any (p : Option Addr) (B : List Nat) (v : Value) (L : List ByteArray) (w : World) (hB : B.length = 64) (hl : Hid (∀ b ∈ B, b < 256))
    (hp : Hid ((p = none ∧ B = z64) ∨ ∃ g, p = some ⟨g, 0, none⟩ ∧ Blk w g 66 (U8s B).toArray)) (hv : Hid (Strs w v L)) (ht : Hid (Tabs w)) (hT : (allB L).length ≤ 100000000000000000) (hL : L.length ≤ 9223372036854775807) :
    Calls Tryd.prog 35 #[.pointer p, v] w fun e w' => e = .returned (.agg (U8s (mac B (allB L))).toArray) ∧ Below w.heap.size w w' := by
  obtain ⟨pv, cap, rfl, hf⟩ := hv.out
  have Hf := Lib.hid hf
  clear hf hv
  have h1w := ht.out.lt
  have hlen : (U8s B).length = 64 := by rw [U8s_len, hB]
  have hsz : Hid ((Tryd.prog.info? 48).map (·.size) = some (U8s B).length) := by rw [hlen]; exact b64_size
  have hsz2 : Hid ((Tryd.prog.info? 48).map (·.size) = some (U8s B).toArray.size) := by rw [List.size_toArray, hlen]; exact b64_size
  have hone : Hid ((U8s B).toArray.all (·.oneCell') = true) := all_oneCell_toArray (U8s_one _)
  have Hund : Hid (Tryd.prog.underlying 48 = some (.array 64 5)) := Lib.hid (by kernel_rfl)
  go_enter Tryd.func35, Tryd.ntmps35
  have kr := (blk1 w 26 (U8s z32).toArray).alloc (.cells (U8s z64).toArray 48)
  have kb0 := blk1 (w.alloc (.cells (U8s z32).toArray 26)) 48 (U8s z64).toArray
  have hb := BW_alloc (BW_alloc (BW_refl w) (.cells (U8s z32).toArray 26)) (.cells (U8s z64).toArray 48)
  have hg : (w.alloc (.cells (U8s z32).toArray 26)).heap.size = w.heap.size + 1 := by simp
  rw [hg] at kb0
  go_upto_if 10 with (fail)
  change Code.wp _ _ _ _ ((w.alloc (.cells (U8s z32).toArray 26)).alloc (.cells (U8s z64).toArray 48))
  generalize (w.alloc (.cells (U8s z32).toArray 26)).alloc (.cells (U8s z64).toArray 48) = W at *
  generalize hgb : w.heap.size + 1 = gb at *
  have Hgb : Hid (w.heap.size < gb) := Lib.hid (by omega)
  clear hg hgb
  go_cut [] (fun wx => Blk wx gb 48 (U8s B).toArray ∧ Blk wx w.heap.size 26 (U8s z32).toArray ∧ Below w.heap.size w wx)
  case first =>
    rcases hp.out with ⟨rfl, rfl⟩ | ⟨g, rfl, kg⟩
    · clear hp
      go_wp2_with fail
      go_meet
      exact ⟨kb0, kr, hb⟩
    · clear hp
      have kg2 := kg.on hb
      have Hr : Hid (W.rangeAt g 0 (U8s B)) := fun j v hj => by rw [Nat.zero_add, kg2.cell]; simpa using hj
      have Hth : Hid (W.there gb 0 (U8s B).toArray.size) := fun j hj => by
        rw [List.size_toArray, hlen] at hj
        rw [Nat.zero_add]
        exact ⟨by rw [kb0.cell, U8s_at (l := z64) hj]; rfl, kb0.free j⟩
      have ko := Lib.hid (setCells_all kb0 (U8s B) (by rw [hlen]; rfl))
      have kr3 := Lib.hid (Blk.farCells (U8s B) 0 _ kr (Nat.ne_of_lt Hgb.out))
      have hbf := Lib.hid (below_setCells (U8s B) 0 _ hb (Nat.le_of_lt Hgb.out))
      clear kg2 kg
      go_wp2_with (first | (refine wpList_load_mid rfl 48 _ rfl g 0 rfl (U8s B) _ Hr.out Hund.out rfl hsz.out ?_) | (refine wpList_store_mid rfl 48 _ _ rfl gb 0 (U8s B).toArray rfl rfl Hth.out hsz2.out hone.out ?_))
      go_meet
      exact ⟨ko.out, kr3.out, hbf.out⟩
  case rest =>
  clear kr kb0 hb hp
  obtain ⟨kb0, kr, hb⟩ := hcut
  have hTc := ht.out.on hb
  go_wp2_with fail
  refine (new_any _ hTc).mono ?_
  rintro e w1 ⟨rfl, hw1⟩
  have hbn := BW_alloc (BW_refl wc) (.cells (hcs BG z64 0 true) 50)
  rw [← hw1] at hbn
  have kh : HSt KK BG w1 wc.heap.size [] := by rw [hw1]; exact HSt.new _
  have kb1 := kb0.on hbn
  have kr1 := kr.on hbn
  have hb1 := BW_on hb hbn
  have hT1 := hTc.on hbn
  have Hgh := Lib.hid (And.intro kb0.lt (And.intro kr.lt (Nat.lt_of_lt_of_le h1w hb.size)))
  clear hw1 hbn kb0 kr hb hTc ht
  generalize wc.heap.size = gh at *
  have Hr : Hid (w1.rangeAt gb 0 (U8s B)) := fun j v hj => by rw [Nat.zero_add, kb1.cell]; simpa using hj
  go_wp2_with (refine wpList_load_mid rfl 48 _ rfl gb 0 rfl (U8s B) _ Hr.out Hund.out rfl hsz.out ?_)
  clear Hr
  refine (sput_any B 54 _ hB hl.out).mono ?_
  rintro e w2 ⟨rfl, hb2⟩
  have Hmac := Bx.mk (show ∀ S, mac B S = sha (xb 92 B ++ sha (xb 54 B ++ S)) from fun _ => rfl)
  have hIlt := Lib.hid (xb_lt 54 B)
  have hI64 := Lib.hid ((xb_len 54 B).trans hB)
  generalize xb 54 B = I at *
  have kh2 := kh.on hb2
  have kb2 := kb1.on hb2
  have kr2 := kr1.on hb2
  have hT2 := hT1.on hb2
  have hbb2 := BW_on hb1 hb2
  clear kh kb1 kr1 hT1 hb1 hb2
  go_wp2_with fail
  refine (write_any gh KK BG [] (byt I) _ (Lib.hid rfl) (Lib.hid kh2) (by rw [List.length_nil, byt_size, hI64.out]; omega) Hgh.out.2.2 (Lib.hid hT2.2)).mono ?_
  rintro e w3 ⟨rfl, kh3, hg3⟩
  rw [List.nil_append, bysN_byt hIlt.out] at kh3
  have kh4 : Hid (HSt KK BG w3 gh (I ++ allB (L.take 0))) := Lib.hid (by rw [List.take_zero, show allB [] = [] from rfl, List.append_nil]; exact kh3)
  have kb3 := Lib.hid (kb2.grown hg3 (Nat.ne_of_gt Hgh.out.1))
  have kr3 := Lib.hid (kr2.grown hg3 (Nat.ne_of_gt Hgh.out.2.1))
  have hT3 := Lib.hid (hT2.grown hg3 Hgh.out.2.2)
  have hb3 := Lib.hid (Below.grownA hbb2 hg3 (Nat.le_of_lt Hgh.out.2.1))
  clear kh2 kh3 kb2 kr2 hT2 hbb2 hg3
  go_wp2_with fail
  go_loopw [22] (fun i wi => ∃ k : Nat, k ≤ L.length ∧ i = .int .i64 (k : Int) ∧ Hid (HSt KK BG wi gh (I ++ allB (L.take k))) ∧ Hid (Blk wi gb 48 (U8s B).toArray) ∧ Hid (Blk wi w.heap.size 26 (U8s z32).toArray) ∧ Hid (Tabs wi) ∧ Hid (Below w.heap.size w wi)) (fun i _ => L.length - (intOf i).toNat)
  case atStart => exact ⟨0, by omega, rfl, kh4, kb3, kr3, hT3, hb3⟩
  case round =>
    clear kh4 kb3 kr3 hT3 hb3
    obtain ⟨k, hk, rfl, kh, kb1, kr, hTw, hb⟩ := hrel
    by_cases hkt : k < L.length
    · have hk1 : (k : Int) < (L.length : Int) := by omega
      obtain ⟨g, off, rfl, hc⟩ := Hf.out (by omega)
      have hcell := BW_cell hb.out (hc k hkt)
      have hle := allB_le L k hkt
      have hk64 : wrap64 ((k : Int) + 1) = (k : Int) + 1 := by unfold wrap64; omega
      have Hsu := Lib.hid (allB_succ L k hkt)
      clear hc
      generalize L[k] = s at *
      go_wp2_with fail
      refine (write_any gh KK BG _ s _ (Lib.hid rfl) kh (by rw [List.length_append, hI64.out]; omega) Hgh.out.2.2 (Lib.hid hTw.out.2)).mono ?_
      rintro e w3 ⟨rfl, hs3, hg3⟩
      have kb3 := Lib.hid (kb1.out.grown hg3 (Nat.ne_of_gt Hgh.out.1))
      have kr3 := Lib.hid (kr.out.grown hg3 (Nat.ne_of_gt Hgh.out.2.1))
      have hT3 := Lib.hid (hTw.out.grown hg3 Hgh.out.2.2)
      have hb3 := Lib.hid (Below.grownA hb.out hg3 (Nat.le_of_lt Hgh.out.2.1))
      go_wp2_with fail
      go_roundw
      case rel => exact ⟨k + 1, by omega, by go_num, Lib.hid (by rw [Hsu.out, ← List.append_assoc]; exact hs3), kb3, kr3, hT3, hb3⟩
      case measure => simp [intOf]; omega
    · obtain rfl : k = L.length := by omega
      rw [List.take_length] at kh
      have hS1 := Lib.hid (sha_IsH (I ++ allB L))
      have HV1 : Hid (shaV (I ++ allB L) = .agg (U8s (sha (I ++ allB L))).toArray) := Lib.hid rfl
      have Hr : Hid (wr.rangeAt gb 0 (U8s B)) := fun j v hj => by rw [Nat.zero_add, kb1.out.cell]; simpa using hj
      go_wp2_with (refine wpList_load_mid rfl 48 _ rfl gb 0 rfl (U8s B) _ Hr.out Hund.out rfl hsz.out ?_)
      clear Hr
      refine (sput_any B 92 _ hB hl.out).mono ?_
      rintro e w2 ⟨rfl, hb2⟩
      have hOlt := Lib.hid (xb_lt 92 B)
      have hO64 := Lib.hid ((xb_len 92 B).trans hB)
      generalize xb 92 B = O at *
      have kh2 := Lib.hid (kh.out.on hb2)
      have kr2 := kr.out.on hb2
      have hT2 := hTw.out.on hb2
      have hbb2 := BW_on hb.out hb2
      clear kh kb1 kr hTw hb hb2
      go_wp2_with fail
      refine (sum_any gh _ _ kh2 (Lib.hid hT2) (by rw [List.length_append, hI64.out]; omega)).mono ?_
      rintro e w3 ⟨rfl, hb3⟩
      rw [HV1.out]
      have kr3 := kr2.on hb3
      have hT3 := hT2.on hb3
      have hbb3 := BW_on hbb2 hb3
      have Hmac2 := Bx.mk (Hmac.out (allB L))
      generalize sha (I ++ allB L) = H1 at *
      clear kr2 hT2 hbb2 hb3 kh2
      go_wp2_with fail
      refine (text_any H1 hS1.out _).mono ?_
      rintro e w4 ⟨rfl, hb4⟩
      have kr4 := kr3.on hb4
      have hT4 := hT3.on hb4
      have hbb4 := BW_on hbb3 hb4
      clear kr3 hT3 hbb3 hb4
      go_wp2_with fail
      have hall : allB [byt O, byt H1] = O ++ H1 := by
        show bysN _ ++ (bysN _ ++ []) = _
        rw [List.append_nil, bysN_byt hOlt.out, bysN_byt hS1.out.2]
      refine (hof_any _ [byt O, byt H1] _ (Lib.hid (strs2 _ _ _)) (Lib.hid (hT4.on (BW_alloc (BW_refl _) _))) (by rw [hall, List.length_append, hO64.out, hS1.out.1]; omega) (by show 2 ≤ 9223372036854775807; decide)).mono ?_
      rintro e w5 ⟨rfl, hb5⟩
      rw [hall, show shaV (O ++ H1) = .agg (U8s (sha (O ++ H1))).toArray from rfl]
      have kr5 := (kr4.alloc (.cells #[.string (byt O), .string (byt H1)] 9)).on hb5
      have hbb5 := BW_on (BW_alloc hbb4 (.cells #[.string (byt O), .string (byt H1)] 9)) hb5
      have HH2 := Lib.hid (sha_IsH (O ++ H1))
      generalize sha (O ++ H1) = H2 at *
      have hszL : Hid ((Tryd.prog.info? 26).map (·.size) = some (U8s H2).toArray.size) := hash_sz HH2.out
      have hone2 : Hid ((U8s H2).toArray.all (·.oneCell') = true) := hash_one H2
      have Hth : Hid (w5.there w.heap.size 0 (U8s H2).toArray.size) := Lib.hid (fun j hj => by
        rw [List.size_toArray, hash_len HH2.out] at hj
        rw [Nat.zero_add]
        exact ⟨by rw [kr5.cell, U8s_at (l := z32) hj]; rfl, kr5.free j⟩)
      have ko := Lib.hid (setCells_all kr5 (U8s H2) (by rw [hash_len HH2.out]; rfl))
      have hbf := Lib.hid (below_setCells (U8s H2) 0 _ hbb5 (Nat.le_refl _))
      clear kr4 hT4 hbb4 hb5 kr5 hbb5 hall
      go_wp2_with (refine wpList_store_mid rfl 26 _ _ rfl w.heap.size 0 (U8s H2).toArray rfl rfl Hth.out hszL.out hone2.out ?_)
      refine bodyPost_ret (v := .agg (U8s H2).toArray) (results_cell_row Tryd.results35 _ _ w.heap.size 26 _ (0, 0) _ (by rfl) ko.out Tryd.underlying26 rfl hszL.out) rfl ⟨by rw [Hmac2.out], hbf.out⟩
end Go.Proofs.YtidceockbjeaoaaDoor

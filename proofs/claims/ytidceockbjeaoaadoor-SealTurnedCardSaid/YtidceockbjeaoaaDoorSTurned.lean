/- The walk of the law SealTurned. -/
import Derived.Test.YtidceockbjeaoaaDoorSX
import Derived.Deep.DeepCutAuto
namespace Go.Proofs.YtidceockbjeaoaaDoor
open Go.RowKit
attribute [local go_sem ↓] Go.wp_at_zero Go.wp_at_succ
theorem and255s (x : Int) : ∃ k : Nat, bits .and .i64 x 255 = (k : Int) ∧ k < 256 := by
  have h : (BitVec.ofInt 64 x &&& BitVec.ofInt 64 255).toNat ≤ 255 := by
    rw [BitVec.toNat_and]
    exact Nat.le_trans Nat.and_le_right (by decide)
  have e : bits .and .i64 x 255 = IntKind.i64.wrap (((BitVec.ofInt 64 x &&& BitVec.ofInt 64 255).toNat : Nat) : Int) := rfl
  rw [IntKind.wrap_i64] at e
  refine ⟨(BitVec.ofInt 64 x &&& BitVec.ofInt 64 255).toNat, ?_, by omega⟩
  rw [e]
  omega
theorem xo_ne (c b : Nat) (hc : c < 256) (h0 : 0 < b) (hb : b < 256) : xo b c ≠ c := by
  intro h
  have h1 : BitVec.ofInt 8 (c : Int) ^^^ BitVec.ofInt 8 (b : Int) = BitVec.ofInt 8 (c : Int) := by
    apply BitVec.eq_of_toNat_eq
    have h2 : (BitVec.ofInt 8 (c : Int)).toNat = c := by
      rw [BitVec.ofInt_natCast, BitVec.toNat_ofNat]; omega
    rw [h2]
    exact h
  have h2 : BitVec.ofInt 8 (b : Int) = 0#8 := by
    have h3 : BitVec.ofInt 8 (c : Int) ^^^ (BitVec.ofInt 8 (c : Int) ^^^ BitVec.ofInt 8 (b : Int)) = BitVec.ofInt 8 (c : Int) ^^^ BitVec.ofInt 8 (c : Int) := by rw [h1]
    rw [← BitVec.xor_assoc, BitVec.xor_self, BitVec.zero_xor] at h3
    exact h3
  have h4 := congrArg BitVec.toNat h2
  rw [BitVec.ofInt_natCast, BitVec.toNat_ofNat] at h4
  simp at h4
  omega
theorem set_ne {A : List Nat} {q x : Nat} (hq : q < A.length) (hx : x ≠ A.getD q 0) : A ≠ A.set q x := by
  intro h
  have h1 := congrArg (fun l => l.getD q 0) h
  simp only [List.getD_eq_getElem?_getD, List.getElem?_set_self hq, Option.getD_some] at h1
  exact hx (by rw [List.getD_eq_getElem?_getD]; exact h1.symm)
set_option maxHeartbeats 4000000 in
set_option maxRecDepth 100000 in
theorem l3turned_any (key s : ByteArray) (bit : Int) (w : World) (ht : Hid (Tabs w)) :
    Calls Tryd.prog 12 #[.string key, .string s, .int .i64 bit] w fun e w' => e = .returned (.bool true) ∧ Below w.heap.size w w' := by
  have hz_k1 := shN_size key 100
  have hsh_k1 := Lib.hid (short03_any key 100)
  generalize shN key 100 = k1 at *
  have hz_s1 := shN_size s 100
  have hsh_s1 := Lib.hid (short03_any s 100)
  generalize shN s 100 = s1 at *
  have hS := SX.nil ht.out
  clear ht
  obtain ⟨k, hk, hk256⟩ := and255s bit
  have hal := one_str s1
  have hof := Lib.hid (fun w ht => sof_any k1 s1 w (by omega) (by omega) ht)
  have hri := Lib.hid (fun M w hM ht => sright_any k1 s1 M w (by omega) (by omega) hM ht)
  have hnw := Lib.hid (fun w ht => snew_any k1 w (by omega) ht)
  have hBl := kb_len (bysN k1)
  have hBt := Lib.hid (kb_lt (bysN_lt k1))
  generalize kb (bysN k1) = B at *
  have hck := Lib.hid (fun p v w M hM (hp : Hid (SlrAt p B w)) hv ht => scheck_any p B M v [s1] w hBl hBt hM hp hv ht (by rw [hal, bysN_len]; omega) (by show 1 ≤ 9223372036854775807; decide))
  rw [hal] at hck
  have hA := mac_IsH B (bysN s1)
  generalize mac B (bysN s1) = A at *
  clear hal
  go_enter Tryd.func12, Tryd.ntmps12
  go_wp2_with fail
  refine (awake03_any _ hS.tabs).mono ?_
  rintro e w1 ⟨rfl, hb1⟩
  replace hS := hS.on hb1
  clear hb1
  go_wp2_with fail
  refine (hsh_k1.out _).mono ?_
  rintro e w' ⟨rfl, rfl⟩
  go_wp2_with fail
  refine (hsh_s1.out _).mono ?_
  rintro e w' ⟨rfl, rfl⟩
  go_wp2_with fail
  refine (hof.out _ hS.tabs).mono ?_
  rintro e w2 ⟨rfl, hb2⟩
  replace hS := hS.on hb2
  clear hb2
  have hth := Lib.hid (hash_there w2 hA)
  have hsz := Lib.hid (hash_sz hA)
  have hone := Lib.hid (hash_one A)
  replace hS := SX.put hS hA
  go_upto_region 5 with (refine wpList_store_mid rfl 26 _ _ rfl w2.heap.size 0 (U8s A).toArray rfl rfl hth.out hsz.out hone.out ?_)
  change Code.wp _ _ _ _ ((w2.alloc (.cells (U8s z32).toArray 26)).setCells w2.heap.size 0 (U8s A))
  clear hth hsz hone
  generalize (w2.alloc (.cells (U8s z32).toArray 26)).setCells w2.heap.size 0 (U8s A) = V at *
  generalize w2.heap.size = ga at *
  have hR := Lib.hid (SX.at hS (.head _))
  have hth := Lib.hid (hash_there V hA)
  have hsz := Lib.hid (hash_sz hA)
  have hszl := Lib.hid (hash_szl hA)
  have hone := Lib.hid (hash_one A)
  have hRa : Hid (RH (V.alloc (.cells (U8s z32).toArray 26)) ga A) := Lib.hid ((HB.at hS.1 (.head _)).on (BW_alloc (BW_refl _) _))
  have ko := setCells_all (blk1 V 26 (U8s z32).toArray) (U8s A) (by rw [hash_len hA]; rfl)
  have hbo : Below V.heap.size V ((V.alloc (.cells (U8s z32).toArray 26)).setCells V.heap.size 0 (U8s A)) := below_setCells _ _ _ (BW_alloc (BW_refl _) _) (Nat.le_refl _)
  have hRv : Hid (RH V ga A) := Lib.hid (HB.at hS.1 (.head _))
  go_upto_region 6 with (first | (refine load_hash rfl _ rfl ga rfl A hRa.out ?_) | (refine load_hash rfl _ rfl ga rfl A hRv.out ?_) | (refine wpList_store_mid rfl 26 _ _ rfl V.heap.size 0 (U8s A).toArray rfl rfl hth.out hsz.out hone.out ?_))
  change Code.wp _ _ _ _ ((V.alloc (.cells (U8s z32).toArray 26)).setCells V.heap.size 0 (U8s A))
  clear hth hsz hszl hone hRa hRv hR
  generalize (V.alloc (.cells (U8s z32).toArray 26)).setCells V.heap.size 0 (U8s A) = Y at *
  generalize hgo : V.heap.size = go at *
  have Hgo := Lib.hid hgo
  clear hgo
  have hq : (k : Int).tdiv 8 = ((k / 8 : Nat) : Int) := by rw [Int.tdiv_eq_ediv_of_nonneg (by omega)]; omega
  have hr : (k : Int).tmod 8 = ((k % 8 : Nat) : Int) := by rw [Int.tmod_eq_emod_of_nonneg (by omega)]; omega
  have hq32 : k / 8 < 32 := by omega
  have hr8 : k % 8 < 8 := by omega
  generalize k / 8 = q at *
  generalize k % 8 = r at *
  have cx := (ko.cell q).trans (U8s_at (l := A) (by rw [hA.1]; exact hq32))
  have fx := ko.free q
  have wr1 : IntKind.u64.wrap (r : Int) = (r : Int) := by rw [IntKind.wrap_u64]; omega
  obtain ⟨b, hb, hb0, hb256⟩ : ∃ b : Nat, (2 : Int) ^ r % 256 = (b : Int) ∧ 0 < b ∧ b < 256 := by
    have : r = 0 ∨ r = 1 ∨ r = 2 ∨ r = 3 ∨ r = 4 ∨ r = 5 ∨ r = 6 ∨ r = 7 := by omega
    rcases this with rfl | rfl | rfl | rfl | rfl | rfl | rfl | rfl
    · exact ⟨1, rfl, by decide, by decide⟩
    · exact ⟨2, rfl, by decide, by decide⟩
    · exact ⟨4, rfl, by decide, by decide⟩
    · exact ⟨8, rfl, by decide, by decide⟩
    · exact ⟨16, rfl, by decide, by decide⟩
    · exact ⟨32, rfl, by decide, by decide⟩
    · exact ⟨64, rfl, by decide, by decide⟩
    · exact ⟨128, rfl, by decide, by decide⟩
  have hc256 : A.getD q 0 < 256 := by
    rw [List.getD_eq_getElem?_getD, List.getElem?_eq_getElem (by rw [hA.1]; exact hq32)]
    exact hA.2 _ (List.getElem_mem _)
  have hne := set_ne (A := A) (q := q) (x := xo b (A.getD q 0)) (by rw [hA.1]; exact hq32) (xo_ne _ _ hc256 hb0 hb256)
  have hO : IsH (A.set q (xo b (A.getD q 0))) := ⟨by rw [List.length_set]; exact hA.1, fun x hx => by
    rcases List.mem_or_eq_of_mem_set hx with h | rfl
    · exact hA.2 _ h
    · exact xo_lt _ _⟩
  have hx := xo_bits b (A.getD q 0)
  have ko2 := ko.set_ q (.int .u8 ((xo b (A.getD q 0) : Nat) : Int))
  rw [U8s_set] at ko2
  generalize A.getD q 0 = c at *
  generalize hOd : A.set q (xo b c) = O at *
  have hdne : Hid (decide (A = O) = false) := Lib.hid (decide_eq_false hne)
  have hbo2 : Below V.heap.size V (Y.setCell ⟨go, q, none⟩ (.int .u8 ((xo b c : Nat) : Int))) := by rw [Hgo.out]; exact hbo.setCell (Nat.le_refl go) _
  have hS2 := hS.on hbo2
  replace hS2 : SX w [(go, O), (ga, A)] none z64 (.slice none 0 0) [] (Y.setCell ⟨go, q, none⟩ (.int .u8 ((xo b c : Nat) : Int))) := ⟨⟨fun p hp => by
    rcases List.mem_cons.1 hp with rfl | hp
    · exact RH.mk' hO ko2
    · exact hS2.1.1 p hp, hS2.1.2⟩, hS2.2⟩
  clear hOd hne ko ko2 hbo hbo2 hS
  go_upto_region 8 with (fail)
  change Code.wp _ _ _ _ (Y.setCell ⟨go, q, none⟩ (.int .u8 ((xo b c : Nat) : Int)))
  clear cx fx wr1 hx hb hq hr
  generalize Y.setCell ⟨go, q, none⟩ (.int .u8 ((xo b c : Nat) : Int)) = Z at *
  go_wp2_with fail
  refine (hnw.out _ hS2.tabs).mono ?_
  rintro e w4 ⟨g, rfl, _, kg, hb4⟩
  have hS := SX.with (hS2.on hb4) (q := some ⟨g, 0, none⟩) (C := B) (.inr ⟨_, rfl, kg⟩)
  clear hb4 kg hnw hS2
  have hR1 := Lib.hid (HB.at hS.1 (.tail _ (.head _)))
  go_wp2_with (refine load_hash rfl _ rfl ga rfl A hR1.out ?_)
  clear hR1
  refine (hri.out A _ hA hS.tabs).mono ?_
  rw [show decide (A = A) = true from decide_eq_true rfl]
  rintro e w5 ⟨rfl, hb5⟩
  replace hS := hS.on hb5
  clear hb5
  have hR2 := Lib.hid (HB.at hS.1 (.head _))
  go_wp2_with (refine load_hash rfl _ rfl go rfl O hR2.out ?_)
  clear hR2
  refine (hri.out O _ hO hS.tabs).mono ?_
  rw [hdne.out]
  rintro e w6 ⟨rfl, hb6⟩
  replace hS := hS.on hb6
  clear hb6
  have hR3 := Lib.hid (HB.at hS.1 (.tail _ (.head _)))
  go_wp2_with (refine load_hash rfl _ rfl ga rfl A hR3.out ?_)
  clear hR3
  refine (hck.out _ _ _ A hA (SX.slr (hS.on (BW_alloc (BW_refl _) _))) (Lib.hid (strs1 _ _)) (SX.tabs (hS.on (BW_alloc (BW_refl _) _)))).mono ?_
  rw [show decide (A = A) = true from decide_eq_true rfl]
  rintro e w7 ⟨rfl, hb7⟩
  replace hS := (hS.on (BW_alloc (BW_refl _) _)).on hb7
  clear hb7
  have hR4 := Lib.hid (HB.at hS.1 (.head _))
  go_wp2_with (refine load_hash rfl _ rfl go rfl O hR4.out ?_)
  clear hR4
  refine (hck.out _ _ _ O hO (SX.slr (hS.on (BW_alloc (BW_refl _) _))) (Lib.hid (strs1 _ _)) (SX.tabs (hS.on (BW_alloc (BW_refl _) _)))).mono ?_
  rw [hdne.out]
  rintro e w8 ⟨rfl, hb8⟩
  replace hS := (hS.on (BW_alloc (BW_refl _) _)).on hb8
  have hbf := hS.below
  go_wp2_with fail
  go_ret
  exact ⟨by simp, hbf⟩
end Go.Proofs.YtidceockbjeaoaaDoor

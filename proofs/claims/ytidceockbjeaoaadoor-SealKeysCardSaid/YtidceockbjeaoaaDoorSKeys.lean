/- The walk of the law SealKeys. -/
import Derived.Test.YtidceockbjeaoaaDoorSX
import Derived.Deep.DeepCutAuto
namespace Go.Proofs.YtidceockbjeaoaaDoor
open Go.RowKit
attribute [local go_sem ↓] Go.wp_at_zero Go.wp_at_succ
theorem kb_sha {K : List Nat} (h : 64 < K.length) : kb (sha K) = kb K := by
  unfold kb
  have h1 : kx K = sha K := by unfold kx; rw [if_pos h]
  have h2 : kx (sha K) = sha K := by unfold kx; rw [if_neg (by rw [(sha_IsH K).1]; decide)]
  rw [h1, h2]
theorem kb_zero {K : List Nat} (h : K.length < 64) : kb (K ++ [0]) = kb K := by
  unfold kb
  have h1 : kx K = K := by unfold kx; rw [if_neg (by omega)]
  have h2 : kx (K ++ [0]) = K ++ [0] := by unfold kx; rw [if_neg (by rw [List.length_append]; simp; omega)]
  rw [h1, h2, List.append_assoc]
  congr 1
  rw [List.length_append, show 64 - K.length = (64 - (K.length + [0].length)) + 1 by simp; omega, List.replicate_succ]
  rfl
set_option maxHeartbeats 4000000 in
set_option maxRecDepth 100000 in
theorem l3keys_any (key s : ByteArray) (w : World) (ht : Hid (Tabs w)) :
    Calls Tryd.prog 11 #[.string key, .string s] w fun e w' => e = .returned (.bool true) ∧ Below w.heap.size w w' := by
  have hz_k1 := shN_size key 150
  have hsh_k1 := Lib.hid (short03_any key 150)
  generalize shN key 150 = k1 at *
  have hz_s1 := shN_size s 100
  have hsh_s1 := Lib.hid (short03_any s 100)
  generalize shN s 100 = s1 at *
  have hS := SX.nil ht.out
  clear ht
  obtain ⟨t, ht', hadd⟩ := cat_big k1 ⟨#[0]⟩ (by show k1.size + 1 ≤ _; omega)
  have htb : bysN t = bysN k1 ++ [0] := ht'
  have hts : t.size = k1.size + 1 := by rw [← bysN_len, htb, List.length_append, bysN_len]; rfl
  have hof := Lib.hid (fun w ht => sof_any k1 s1 w (by omega) (by omega) ht)
  have hA := mac_IsH (kb (bysN k1)) (bysN s1)
  have hro := Lib.hid (fun w => rof_any k1 s1 w (by omega) (by omega))
  have hC : Hid (k1.size < 64 → mac (kb (bysN t)) (bysN s1) = mac (kb (bysN k1)) (bysN s1)) := Lib.hid (fun h => by rw [htb, kb_zero (by rw [bysN_len]; exact h)])
  have hL : Hid (64 < k1.size → mac (kb (bysN (byt (sha (bysN k1))))) (bysN s1) = mac (kb (bysN k1)) (bysN s1)) := Lib.hid (fun h => by rw [bysN_byt (sha_IsH _).2, kb_sha (by rw [bysN_len]; exact h)])
  generalize mac (kb (bysN k1)) (bysN s1) = A at *
  clear htb ht'
  go_enter Tryd.func11, Tryd.ntmps11
  go_wp2_with fail
  refine (awake03_any _ hS.tabs).mono ?_
  rintro e w1 ⟨rfl, hb1⟩
  replace hS := hS.on hb1
  clear hb1
  go_wp2_with fail
  refine (hsh_k1.out _).mono ?_
  rintro e w' ⟨rfl, rfl⟩
  go_wp2_with fail
  refine (hsh_s1.out _).mono ?_
  rintro e w' ⟨rfl, rfl⟩
  have hq := hash_eq_rfl hA
  have hq2 := eq_hash A A hA hA
  go_upto_if 16 with (fail)
  by_cases hc : 64 < k1.size
  · have hc1 : (64 : Int) < (k1.size : Int) := by omega
    have hc2 : ¬ (k1.size : Int) = 64 := by omega
    have hLc := Lib.hid (hL.out hc)
    have Hsh := Lib.hid (sha_IsH (bysN k1))
    have Hsv := Bx.mk (show shaV (bysN k1) = .agg (U8s (sha (bysN k1))).toArray from rfl)
    generalize sha (bysN k1) = K1 at *
    have hk32 : (byt K1).size = 32 := by rw [byt_size]; exact Hsh.out.1
    clear hL hC hc
    go_wp2_with fail
    refine (rquick_any k1 _ (by omega)).mono ?_
    rw [Hsv.out]
    rintro e w2 ⟨rfl, hb2⟩
    replace hS := hS.on hb2
    clear hb2
    go_wp2_with fail
    refine (rtext_any K1 Hsh.out _).mono ?_
    rintro e w3 ⟨rfl, hb3⟩
    replace hS := hS.on hb3
    clear hb3
    go_wp2_with fail
    refine (hof.out _ hS.tabs).mono ?_
    rintro e w4 ⟨rfl, hb4⟩
    replace hS := hS.on hb4
    clear hb4
    go_wp2_with fail
    refine (sof_any (byt K1) s1 _ (by omega) (by omega) hS.tabs).mono ?_
    rw [hLc.out]
    rintro e w5 ⟨rfl, hb5⟩
    replace hS := hS.on hb5
    have hbf := hS.below
    clear hb5
    go_wp2_with fail
    go_ret
    exact ⟨by simp, hbf⟩
  · have hc1 : ¬ (64 : Int) < (k1.size : Int) := by omega
    by_cases hd : k1.size = 64
    · have hd1 : (k1.size : Int) = 64 := by omega
      clear hL hC hc
      go_wp2_with fail
      refine (hof.out _ hS.tabs).mono ?_
      rintro e w4 ⟨rfl, hb4⟩
      replace hS := hS.on hb4
      clear hb4
      go_wp2_with fail
      refine (hro.out _).mono ?_
      rintro e w5 ⟨rfl, hb5⟩
      replace hS := hS.on hb5
      have hbf := hS.below
      clear hb5
      go_wp2_with fail
      go_ret
      exact ⟨by simp, hbf⟩
    · have hd1 : ¬ (k1.size : Int) = 64 := by omega
      have hCc := Lib.hid (hC.out (by omega))
      clear hL hC hc
      go_wp2_with fail
      refine (hof.out _ hS.tabs).mono ?_
      rintro e w4 ⟨rfl, hb4⟩
      replace hS := hS.on hb4
      clear hb4
      go_wp2_with fail
      refine (sof_any t s1 _ (by omega) (by omega) hS.tabs).mono ?_
      rw [hCc.out]
      rintro e w5 ⟨rfl, hb5⟩
      replace hS := hS.on hb5
      have hbf := hS.below
      clear hb5
      go_wp2_with fail
      go_ret
      exact ⟨by simp, hbf⟩
end Go.Proofs.YtidceockbjeaoaaDoor

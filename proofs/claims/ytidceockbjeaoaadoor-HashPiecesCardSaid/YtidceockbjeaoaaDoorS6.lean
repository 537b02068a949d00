/- The seal's laws: short; the chapter's example. -/
import Derived.Test.YtidceockbjeaoaaDoorS5
namespace Go.Proofs.YtidceockbjeaoaaDoor
open Go.RowKit
attribute [local go_sem ↓] Go.wp_at_zero Go.wp_at_succ
theorem short03_any (s : ByteArray) (n : Nat) (w : World) : Calls Tryd.prog 30 #[.string s, .int .i64 (n : Int)] w fun e w' => e = .returned (.string (shN s n)) ∧ w = w' := by
  by_cases h : n < s.size
  · have e : shN s n = s.extract 0 n := if_pos h
    have h1 : (n : Int) < (s.size : Int) := by omega
    have h2 : (n : Int) ≤ (s.size : Int) := by omega
    rw [e]
    clear h e
    go_enter Tryd.func30, Tryd.ntmps30
    go_wp2_with fail
    go_ret
    exact ⟨by first | rfl | simp, rfl⟩
  · have e : shN s n = s := if_neg h
    have h1 : ¬ (n : Int) < (s.size : Int) := by omega
    rw [e]
    clear h e
    go_enter Tryd.func30, Tryd.ntmps30
    go_wp2_with fail
    go_ret
    exact ⟨rfl, rfl⟩
def foxMac : List Nat := [247, 188, 131, 244, 48, 83, 132, 36, 177, 50, 152, 230, 170, 111, 177, 67, 239, 77, 89, 161, 73, 70, 23, 89, 151, 71, 157, 188, 45, 26, 60, 216]
set_option maxRecDepth 100000 in
theorem fox_mac : mac (kb (bysN ⟨#[107, 101, 121]⟩)) (bysN ⟨#[84, 104, 101, 32, 113, 117, 105, 99, 107, 32, 98, 114, 111, 119, 110, 32, 102, 111, 120, 32, 106, 117, 109, 112, 115, 32, 111, 118, 101, 114, 32, 116, 104, 101, 32, 108, 97, 122, 121, 32, 100, 111, 103]⟩) = foxMac := by decide +kernel
theorem foxMac_IsH : IsH foxMac := by rw [← fox_mac]; exact mac_IsH _ _
set_option maxRecDepth 100000 in
set_option maxHeartbeats 4000000 in
theorem awake03_any (w : World) (ht : Hid (Tabs w)) : Calls Tryd.prog 29 #[] w fun e w' => e = .returned (.bool true) ∧ Below w.heap.size w w' := by
  have hq : ((byt foxMac).toList == ([247, 188, 131, 244, 48, 83, 132, 36, 177, 50, 152, 230, 170, 111, 177, 67, 239, 77, 89, 161, 73, 70, 23, 89, 151, 71, 157, 188, 45, 26, 60, 216] : List UInt8)) = true := by decide +kernel
  have hM := Lib.hid foxMac_IsH
  have hfox := Lib.hid fox_mac
  go_enter Tryd.func29, Tryd.ntmps29
  go_wp2_with fail
  refine (sof_any _ _ _ (by decide) (by decide) ht).mono ?_
  rw [hfox.out]
  rintro e w1 ⟨rfl, hb1⟩
  have hS1 := (HB.nil ht.out).on hb1
  have hput := hS1.put hM.out
  generalize foxMac = M at *
  have hth := Lib.hid (hash_there w1 hM.out)
  have hsz := Lib.hid (hash_sz hM.out)
  have hone := Lib.hid (hash_one M)
  go_upto_region 2 with (refine wpList_store_mid rfl 26 _ _ rfl w1.heap.size 0 (U8s M).toArray rfl rfl hth.out hsz.out hone.out ?_)
  change Code.wp _ _ _ _ ((w1.alloc (.cells (U8s z32).toArray 26)).setCells w1.heap.size 0 (U8s M))
  generalize (w1.alloc (.cells (U8s z32).toArray 26)).setCells w1.heap.size 0 (U8s M) = V at *
  generalize w1.heap.size = gm at *
  clear hth hb1 hS1
  have hR := Lib.hid (HB.at hput (.head _))
  go_wp2_with (refine load_hash rfl _ rfl gm rfl M hR.out ?_)
  refine (rtext_any M hM.out _).mono ?_
  rintro e w2 ⟨rfl, hb2⟩
  have hput2 := hput.on hb2
  have hR2 := Lib.hid (HB.at hput2 (.head _))
  clear hput hR
  go_wp2_with (refine load_hash rfl _ rfl gm rfl M hR2.out ?_)
  refine (sright_any _ _ M _ (by decide) (by decide) hM.out (Lib.hid hput2.2.1)).mono ?_
  rw [hfox.out]
  rintro e w3 ⟨rfl, hb3⟩
  have hbf := (hput2.on hb3).2.2
  go_wp2_with fail
  go_ret
  exact ⟨by simp, hbf⟩
end Go.Proofs.YtidceockbjeaoaaDoor

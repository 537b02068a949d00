/- The document's reader of layer 1: a text. -/
import Derived.Test.YtbimnfmjgmfijaaDoorM1
import Derived.Deep.QuietTactic
import Derived.BigQuiet
namespace Go.Proofs.YtbimnfmjgmfijaaDoor
open Go.RowKit
attribute [local go_sem ↓] Go.wp_at_zero Go.wp_at_succ
theorem body_num (x1 x2 x3 : Nat) (h1 : x1 < 256) (h2 : x2 < 256) (h3 : x3 < 256) : ∃ n : Nat, x1 * 65536 + x2 * 256 + x3 = n ∧ n < 16777216 ∧ wrap64 ((x1 : Int) * 65536) = (x1 : Int) * 65536 ∧ wrap64 ((x2 : Int) * 256) = (x2 : Int) * 256 ∧
    wrap64 ((x1 : Int) * 65536 + (x2 : Int) * 256) = (x1 : Int) * 65536 + (x2 : Int) * 256 ∧ wrap64 ((x1 : Int) * 65536 + (x2 : Int) * 256 + (x3 : Int)) = (n : Int) ∧ (x1 : Int) * 65536 + (x2 : Int) * 256 + (x3 : Int) = (n : Int) ∧ wrap64 (4 + (n : Int)) = 4 + (n : Int) ∧ wrap64 (x3 : Int) = (x3 : Int) ∧ wrap64 (n : Int) = (n : Int) :=
  ⟨_, rfl, by omega, by unfold wrap64; omega, by unfold wrap64; omega, by unfold wrap64; omega, by unfold wrap64; omega, by omega, by unfold wrap64; omega, by unfold wrap64; omega, by unfold wrap64; omega⟩
set_option maxHeartbeats 4000000 in
set_option maxRecDepth 100000 in
theorem rrdtext_any (c most b : Nat) (T : ByteArray) (bad : Bool) (w : World) (hR : Blk w b 58 #[.string T, .bool bad]) (hT : T.size ≤ 1000000) :
    Calls Tryd.prog 32 #[.pointer (some ⟨b, 0, none⟩), .int .u8 (c : Int), .int .i64 (most : Int)] w fun e w' => ReadsT 58 b w T (rText c most (bysN T) bad) e w' := by
  have hlen := bysN_len T
  have c0 := hR.cell 0
  have c1 := hR.cell 1
  have f1 := hR.free 1
  have hset := Lib.hid (show Blk (w.setCell ⟨b, 1, none⟩ (.bool true)) b 58 #[.string T, .bool true] by simpa using hR.set_ 1 (.bool true))
  have hks := Lib.hid (kept_set (kept_refl b w) 1 (.bool true))
  by_cases hA : bad = true
  · subst hA
    have hf : Hid (rText c most (bysN T) true = ([], bysN T, true)) := Lib.hid (rText_fail (.inl rfl))
    go_enter Tryd.func32, Tryd.ntmps32
    go_wp2_with fail
    go_ret
    exact rdt _ T true rfl (by rw [hf.out]; rfl) hset.out (Nat.le_refl _) hks.out
  · have hb : bad = false := by cases bad; rfl; exact absurd rfl hA
    subst hb
    clear hA
    by_cases h4 : T.size < 4
    · have hf : Hid (rText c most (bysN T) false = ([], bysN T, true)) := Lib.hid (rText_fail (.inr (.inl (by omega))))
      have h4i : (T.size : Int) < 4 := by omega
      go_enter Tryd.func32, Tryd.ntmps32
      go_wp2_with fail
      go_ret
      exact rdt _ T true rfl (by rw [hf.out]; rfl) hset.out (Nat.le_refl _) hks.out
    · have h4i : ¬ (T.size : Int) < 4 := by omega
      have hp0 : (0 : Int) < (T.size : Int) := by omega
      have g0 := str_get T 0 (by omega)
      by_cases hx : (bysN T).getD 0 0 = c
      · have hn0 : ¬ (false = true ∨ (bysN T).length < 4 ∨ (bysN T).getD 0 0 ≠ c) := by
          rintro (h | h | h)
          · cases h
          · omega
          · exact h hx
        have Hlong := Lib.hid (rText_long (most := most) hn0)
        have Hok := Lib.hid (rText_ok (most := most) hn0)
        have hbN : Hid (bodyN (bysN T) = (bysN T).getD 1 0 * 65536 + (bysN T).getD 2 0 * 256 + (bysN T).getD 3 0) := Lib.hid rfl
        have l1 := bysN_getD T 1
        have l2 := bysN_getD T 2
        have l3 := bysN_getD T 3
        have g1 := str_get T 1 (by omega)
        have g2 := str_get T 2 (by omega)
        have g3 := str_get T 3 (by omega)
        have hp1 : (1 : Int) < (T.size : Int) := by omega
        have hp2 : (2 : Int) < (T.size : Int) := by omega
        have hp3 : (3 : Int) < (T.size : Int) := by omega
        rw [hx] at g0
        generalize (bysN T).getD 1 0 = x1 at *
        generalize (bysN T).getD 2 0 = x2 at *
        generalize (bysN T).getD 3 0 = x3 at *
        obtain ⟨n, hn, hN, m1, m2, m3, m4, m5, w2, q3, wn⟩ := body_num x1 x2 x3 l1 l2 l3
        rw [hn] at hbN
        have w1 : wrap64 ((T.size : Int) - 4) = (T.size : Int) - 4 := by unfold wrap64; omega
        clear hn0 hn
        go_enter Tryd.func32, Tryd.ntmps32
        go_wp2_with fail
        go_quiet (fail)
        have hRq : Blk (w.drewN nq) b 58 #[.string T, .bool false] := hR
        have hkq : Kept b w (w.drewN nq) := ⟨rfl, rfl, rfl, Nat.le_refl _, fun _ _ _ => rfl⟩
        generalize w.drewN nq = wd at *
        clear hset hks c0 c1 f1 hR
        try simp only [q3, wn]
        clear m1 m2 m3 m4 m5 g0 g1 g2 g3 l1 l2 l3 q3
        have c0 := hRq.cell 0
        have c1 := hRq.cell 1
        have f0 := hRq.free 0
        have f1 := hRq.free 1
        have hset := Lib.hid (show Blk (wd.setCell ⟨b, 1, none⟩ (.bool true)) b 58 #[.string T, .bool true] by simpa using hRq.set_ 1 (.bool true))
        have hks := Lib.hid (kept_set hkq 1 (.bool true))
        by_cases hmo : most < n
        · have d1 : (most : Int) < (n : Int) := by omega
          have hf := Lib.hid (Hlong.out (.inl (by rw [hbN.out]; exact hmo)))
          go_wp2_with fail
          go_ret
          exact rdt _ T true rfl (by rw [hf.out]; rfl) hset.out (Nat.le_refl _) hks.out
        · have d1 : ¬ (most : Int) < (n : Int) := by omega
          by_cases hle : T.size - 4 < n
          · have d2 : (T.size : Int) - 4 < (n : Int) := by omega
            have hf := Lib.hid (Hlong.out (.inr (by rw [hbN.out, hlen]; exact hle)))
            go_wp2_with fail
            go_ret
            exact rdt _ T true rfl (by rw [hf.out]; rfl) hset.out (Nat.le_refl _) hks.out
          · have d2 : ¬ (T.size : Int) - 4 < (n : Int) := by omega
            have d3 : 4 + (n : Int) ≤ (T.size : Int) := by omega
            have d4 : (4 : Int) ≤ 4 + (n : Int) := by omega
            have hf := Lib.hid (Hok.out (fun h => by rw [hbN.out, hlen] at h; omega))
            have hbN2 := hbN.out
            rw [hbN2] at hf
            have r1 : Hid (bysN (T.extract 4 (4 + n)) = ((bysN T).drop 4).take n) := Lib.hid (by rw [bysN_extract, List.drop_take, Nat.add_sub_cancel_left])
            have r2 : Hid (bysN (T.extract (4 + n) T.size) = (bysN T).drop (4 + n)) := Lib.hid (by rw [bysN_extract, List.take_of_length_le (by omega)])
            have r3 : Hid ((T.extract (4 + n) T.size).size ≤ T.size) := Lib.hid (by rw [ByteArray.size_extract]; omega)
            clear hbN hbN2 hmo hle
            go_wp2_with fail
            go_ret
            exact rdt _ (T.extract (4 + n) T.size) false rfl (by rw [hf.out, r1.out, r2.out]) (by simpa using hRq.set_ 0 (.string (T.extract (4 + n) T.size))) r3.out (kept_set hkq _ _)
      · have hf : Hid (rText c most (bysN T) false = ([], bysN T, true)) := Lib.hid (rText_fail (.inr (.inr hx)))
        have hxi : ¬ (((bysN T).getD 0 0 : Nat) : Int) = (c : Int) := by omega
        generalize (bysN T).getD 0 0 = x at *
        go_enter Tryd.func32, Tryd.ntmps32
        go_wp2_with fail
        go_ret
        exact rdt _ T true rfl (by rw [hf.out]; rfl) hset.out (Nat.le_refl _) hks.out
end Go.Proofs.YtbimnfmjgmfijaaDoor

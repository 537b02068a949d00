/- Layer 13 (packet): whether a packet may be; the program's and the document's. -/
import Derived.Test.YtpcdgljcpacpiaaGreatDoorPh
namespace Go.Proofs.YtpcdgljcpacpiaaGreatDoor
open Go.RowKit
attribute [local go_sem ↓] Go.wp_at_zero Go.wp_at_succ
set_option maxHeartbeats 4000000 in
set_option maxRecDepth 100000 in
theorem check13_any (q h t : Int) (s k d f g : ByteArray) (n : Nat) (w : World) (zs : s.size ≤ 1000000) (zk : k.size ≤ 1000000) (zd : d.size ≤ 1000000) (_zf : f.size ≤ 1000000) (_zg : g.size ≤ 1000000) (hn : W256 n) : Calls Tryz.prog 64 #[.agg #[.int .i64 q, .string s, .string k, .string d, .int .u64 (limb n 0), .int .u64 (limb n 1), .int .u64 (limb n 2), .int .u64 (limb n 3), .string f, .string g, .int .i64 h, .int .i64 t]] w fun e w' => e = .returned (.int .i64 (chkN (okP q h t (bysN s) (bysN k) (bysN d) (bysN f) (bysN g) n))) ∧ Below w.heap.size w w' := by
  have hz := hn
  have HP0 : Hid (∀ _ : ¬ (1 ≤ q ∧ q ≤ 1099511627776) ∨ ¬ (0 ≤ h ∧ h ≤ 1099511627776) ∨ ¬ (0 ≤ t ∧ t ≤ 1099511627776) ∨ (h = 0 ∧ t = 0) ∨ okPart (bysN s) = false ∨ okPart (bysN k) = false ∨ okDen (bysN d) = false ∨ n = 0 ∨ okPlain (bysN f) = false ∨ okPlain (bysN g) = false, okP q h t (bysN s) (bysN k) (bysN d) (bysN f) (bysN g) n = false) := Lib.hid okP_false
  have HP1 := Lib.hid (@okP_true q h t (bysN s) (bysN k) (bysN d) (bysN f) (bysN g) n)
  have Hn := Lib.hid hn
  clear hn
  generalize okP q h t (bysN s) (bysN k) (bysN d) (bysN f) (bysN g) n = ok at *
  by_cases a1 : 1 ≤ q ∧ q ≤ 1099511627776
  · have W1 : Hid ((decide (1 ≤ q) && decide (q ≤ 1099511627776)) = true) := Lib.hid (by rw [decide_eq_true a1.1, decide_eq_true a1.2]; rfl)
    by_cases a2 : 0 ≤ h ∧ h ≤ 1099511627776
    · have W2 : Hid ((decide (0 ≤ h) && decide (h ≤ 1099511627776)) = true) := Lib.hid (by rw [decide_eq_true a2.1, decide_eq_true a2.2]; rfl)
      by_cases a3 : 0 ≤ t ∧ t ≤ 1099511627776
      · have W3 : Hid ((decide (0 ≤ t) && decide (t ≤ 1099511627776)) = true) := Lib.hid (by rw [decide_eq_true a3.1, decide_eq_true a3.2]; rfl)
        have A1 := Lib.hid a1
        have A2 := Lib.hid a2
        have A3 := Lib.hid a3
        clear a1 a2 a3
        by_cases a4 : h = 0 ∧ t = 0
        · obtain ⟨rfl, rfl⟩ := a4
          go_enter Tryz.func64, Tryz.ntmps64
          have k1 := (blk1 w 35 #[.int .i64 q, .string s, .string k, .string d, .int .u64 (limb n 0), .int .u64 (limb n 1), .int .u64 (limb n 2), .int .u64 (limb n 3), .string f, .string g, .int .i64 0, .int .i64 0]).alloc (.cells #[.string d, .int .u64 (limb n 0), .int .u64 (limb n 1), .int .u64 (limb n 2), .int .u64 (limb n 3), .string f, .string g] 33)
          have k2 := blk2 w (.cells #[.int .i64 q, .string s, .string k, .string d, .int .u64 (limb n 0), .int .u64 (limb n 1), .int .u64 (limb n 2), .int .u64 (limb n 3), .string f, .string g, .int .i64 0, .int .i64 0] 35) 33 #[.string d, .int .u64 (limb n 0), .int .u64 (limb n 1), .int .u64 (limb n 2), .int .u64 (limb n 3), .string f, .string g]
          have hB := BW_alloc (BW_alloc (BW_refl w) (.cells #[.int .i64 q, .string s, .string k, .string d, .int .u64 (limb n 0), .int .u64 (limb n 1), .int .u64 (limb n 2), .int .u64 (limb n 3), .string f, .string g, .int .i64 0, .int .i64 0] 35)) (.cells #[.string d, .int .u64 (limb n 0), .int .u64 (limb n 1), .int .u64 (limb n 2), .int .u64 (limb n 3), .string f, .string g] 33)
          go_wp2_with (first
              | (go_at_call 86; refine (within_any _ _ _).mono ?_; rintro e w2 ⟨rfl, rfl⟩; (first | (have := fl2; rw [W3.out]) | (have := fl1; rw [W2.out]; have fl2 := True.intro) | (rw [W1.out]; have fl1 := True.intro)))
              | (go_at_call 72; refine (part_any _ _ (by omega)).mono ?_; first | (have := fl5; rintro e w2 ⟨rfl, hb2⟩; rw [H6.out]; replace hB := BW_on hB hb2; replace k1 := k1.on hb2; replace k2 := k2.on hb2; have co1 := (fun i => k1.cell i); have co2 := (fun i => k2.cell i); clear hb2) | (rintro e w2 ⟨rfl, hb2⟩; rw [H5.out]; have fl5 := True.intro; replace hB := BW_on hB hb2; replace k1 := k1.on hb2; replace k2 := k2.on hb2; have co1 := (fun i => k1.cell i); have co2 := (fun i => k2.cell i); clear hb2))
              | (go_at_call 39; refine (check_any _ _ (by omega)).mono ?_; rintro e w2 ⟨rfl, hb2⟩; rw [H7.out]; replace hB := BW_on hB hb2; replace k1 := k1.on hb2; replace k2 := k2.on hb2; have co1 := (fun i => k1.cell i); have co2 := (fun i => k2.cell i); clear hb2)
              | (go_at_call 87; refine (wzero_any n Hn.out _).mono ?_; rintro e w2 ⟨rfl, hb2⟩; rw [H8.out]; replace hB := BW_on hB hb2; replace k1 := k1.on hb2; replace k2 := k2.on hb2; have co1 := (fun i => k1.cell i); have co2 := (fun i => k2.cell i); clear hb2)
              | (go_at_call 88; refine (plain_any _ _).mono ?_; first | (have := fl9; rintro e w2 ⟨rfl, rfl⟩; rw [H10.out]) | (rintro e w2 ⟨rfl, rfl⟩; rw [H9.out]; have fl9 := True.intro)))
          go_ret
          exact ⟨by rw [show ok = false from HP0.out (.inr (.inr (.inr (.inl (by first | exact ⟨rfl, rfl⟩ | trivial)))))]; rfl, hB⟩
        · have A4 := Lib.hid a4
          by_cases a5 : okPart (bysN s) = true
          · have H5 := Lib.hid a5
            by_cases a6 : okPart (bysN k) = true
            · have H6 := Lib.hid a6
              by_cases a7 : okDen (bysN d) = true
              · have H7 := Lib.hid a7
                by_cases a8 : n = 0
                · have H8 : Hid (decide (n = 0) = true) := Lib.hid (decide_eq_true a8)
                  have A8 := Lib.hid a8
                  clear a5 a6 a7 a8
                  by_cases e0 : h = 0
                  · have e1 : ¬ t = 0 := fun z => A4.out ⟨e0, z⟩
                    clear a4
                    subst e0
                    go_enter Tryz.func64, Tryz.ntmps64
                    have k1 := (blk1 w 35 #[.int .i64 q, .string s, .string k, .string d, .int .u64 (limb n 0), .int .u64 (limb n 1), .int .u64 (limb n 2), .int .u64 (limb n 3), .string f, .string g, .int .i64 0, .int .i64 t]).alloc (.cells #[.string d, .int .u64 (limb n 0), .int .u64 (limb n 1), .int .u64 (limb n 2), .int .u64 (limb n 3), .string f, .string g] 33)
                    have k2 := blk2 w (.cells #[.int .i64 q, .string s, .string k, .string d, .int .u64 (limb n 0), .int .u64 (limb n 1), .int .u64 (limb n 2), .int .u64 (limb n 3), .string f, .string g, .int .i64 0, .int .i64 t] 35) 33 #[.string d, .int .u64 (limb n 0), .int .u64 (limb n 1), .int .u64 (limb n 2), .int .u64 (limb n 3), .string f, .string g]
                    have hB := BW_alloc (BW_alloc (BW_refl w) (.cells #[.int .i64 q, .string s, .string k, .string d, .int .u64 (limb n 0), .int .u64 (limb n 1), .int .u64 (limb n 2), .int .u64 (limb n 3), .string f, .string g, .int .i64 0, .int .i64 t] 35)) (.cells #[.string d, .int .u64 (limb n 0), .int .u64 (limb n 1), .int .u64 (limb n 2), .int .u64 (limb n 3), .string f, .string g] 33)
                    go_wp2_with (first
                        | (go_at_call 86; refine (within_any _ _ _).mono ?_; rintro e w2 ⟨rfl, rfl⟩; (first | (have := fl2; rw [W3.out]) | (have := fl1; rw [W2.out]; have fl2 := True.intro) | (rw [W1.out]; have fl1 := True.intro)))
                        | (go_at_call 72; refine (part_any _ _ (by omega)).mono ?_; first | (have := fl5; rintro e w2 ⟨rfl, hb2⟩; rw [H6.out]; replace hB := BW_on hB hb2; replace k1 := k1.on hb2; replace k2 := k2.on hb2; have co1 := (fun i => k1.cell i); have co2 := (fun i => k2.cell i); clear hb2) | (rintro e w2 ⟨rfl, hb2⟩; rw [H5.out]; have fl5 := True.intro; replace hB := BW_on hB hb2; replace k1 := k1.on hb2; replace k2 := k2.on hb2; have co1 := (fun i => k1.cell i); have co2 := (fun i => k2.cell i); clear hb2))
                        | (go_at_call 39; refine (check_any _ _ (by omega)).mono ?_; rintro e w2 ⟨rfl, hb2⟩; rw [H7.out]; replace hB := BW_on hB hb2; replace k1 := k1.on hb2; replace k2 := k2.on hb2; have co1 := (fun i => k1.cell i); have co2 := (fun i => k2.cell i); clear hb2)
                        | (go_at_call 87; refine (wzero_any n Hn.out _).mono ?_; rintro e w2 ⟨rfl, hb2⟩; rw [H8.out]; replace hB := BW_on hB hb2; replace k1 := k1.on hb2; replace k2 := k2.on hb2; have co1 := (fun i => k1.cell i); have co2 := (fun i => k2.cell i); clear hb2)
                        | (go_at_call 88; refine (plain_any _ _).mono ?_; first | (have := fl9; rintro e w2 ⟨rfl, rfl⟩; rw [H10.out]) | (rintro e w2 ⟨rfl, rfl⟩; rw [H9.out]; have fl9 := True.intro)))
                    go_ret
                    exact ⟨by rw [show ok = false from HP0.out (.inr (.inr (.inr (.inr (.inr (.inr (.inr (.inl A8.out))))))))]; rfl, hB⟩
                  · clear a4
                    go_enter Tryz.func64, Tryz.ntmps64
                    have k1 := (blk1 w 35 #[.int .i64 q, .string s, .string k, .string d, .int .u64 (limb n 0), .int .u64 (limb n 1), .int .u64 (limb n 2), .int .u64 (limb n 3), .string f, .string g, .int .i64 h, .int .i64 t]).alloc (.cells #[.string d, .int .u64 (limb n 0), .int .u64 (limb n 1), .int .u64 (limb n 2), .int .u64 (limb n 3), .string f, .string g] 33)
                    have k2 := blk2 w (.cells #[.int .i64 q, .string s, .string k, .string d, .int .u64 (limb n 0), .int .u64 (limb n 1), .int .u64 (limb n 2), .int .u64 (limb n 3), .string f, .string g, .int .i64 h, .int .i64 t] 35) 33 #[.string d, .int .u64 (limb n 0), .int .u64 (limb n 1), .int .u64 (limb n 2), .int .u64 (limb n 3), .string f, .string g]
                    have hB := BW_alloc (BW_alloc (BW_refl w) (.cells #[.int .i64 q, .string s, .string k, .string d, .int .u64 (limb n 0), .int .u64 (limb n 1), .int .u64 (limb n 2), .int .u64 (limb n 3), .string f, .string g, .int .i64 h, .int .i64 t] 35)) (.cells #[.string d, .int .u64 (limb n 0), .int .u64 (limb n 1), .int .u64 (limb n 2), .int .u64 (limb n 3), .string f, .string g] 33)
                    go_wp2_with (first
                        | (go_at_call 86; refine (within_any _ _ _).mono ?_; rintro e w2 ⟨rfl, rfl⟩; (first | (have := fl2; rw [W3.out]) | (have := fl1; rw [W2.out]; have fl2 := True.intro) | (rw [W1.out]; have fl1 := True.intro)))
                        | (go_at_call 72; refine (part_any _ _ (by omega)).mono ?_; first | (have := fl5; rintro e w2 ⟨rfl, hb2⟩; rw [H6.out]; replace hB := BW_on hB hb2; replace k1 := k1.on hb2; replace k2 := k2.on hb2; have co1 := (fun i => k1.cell i); have co2 := (fun i => k2.cell i); clear hb2) | (rintro e w2 ⟨rfl, hb2⟩; rw [H5.out]; have fl5 := True.intro; replace hB := BW_on hB hb2; replace k1 := k1.on hb2; replace k2 := k2.on hb2; have co1 := (fun i => k1.cell i); have co2 := (fun i => k2.cell i); clear hb2))
                        | (go_at_call 39; refine (check_any _ _ (by omega)).mono ?_; rintro e w2 ⟨rfl, hb2⟩; rw [H7.out]; replace hB := BW_on hB hb2; replace k1 := k1.on hb2; replace k2 := k2.on hb2; have co1 := (fun i => k1.cell i); have co2 := (fun i => k2.cell i); clear hb2)
                        | (go_at_call 87; refine (wzero_any n Hn.out _).mono ?_; rintro e w2 ⟨rfl, hb2⟩; rw [H8.out]; replace hB := BW_on hB hb2; replace k1 := k1.on hb2; replace k2 := k2.on hb2; have co1 := (fun i => k1.cell i); have co2 := (fun i => k2.cell i); clear hb2)
                        | (go_at_call 88; refine (plain_any _ _).mono ?_; first | (have := fl9; rintro e w2 ⟨rfl, rfl⟩; rw [H10.out]) | (rintro e w2 ⟨rfl, rfl⟩; rw [H9.out]; have fl9 := True.intro)))
                    go_ret
                    exact ⟨by rw [show ok = false from HP0.out (.inr (.inr (.inr (.inr (.inr (.inr (.inr (.inl A8.out))))))))]; rfl, hB⟩
                · have H8 : Hid (decide (n = 0) = false) := Lib.hid (decide_eq_false a8)
                  have A8 := Lib.hid a8
                  by_cases a9 : okPlain (bysN f) = true
                  · have H9 := Lib.hid a9
                    by_cases a10 : okPlain (bysN g) = true
                    · have H10 := Lib.hid a10
                      clear a5 a6 a7 a8 a9 a10
                      by_cases e0 : h = 0
                      · have e1 : ¬ t = 0 := fun z => A4.out ⟨e0, z⟩
                        clear a4
                        subst e0
                        go_enter Tryz.func64, Tryz.ntmps64
                        have k1 := (blk1 w 35 #[.int .i64 q, .string s, .string k, .string d, .int .u64 (limb n 0), .int .u64 (limb n 1), .int .u64 (limb n 2), .int .u64 (limb n 3), .string f, .string g, .int .i64 0, .int .i64 t]).alloc (.cells #[.string d, .int .u64 (limb n 0), .int .u64 (limb n 1), .int .u64 (limb n 2), .int .u64 (limb n 3), .string f, .string g] 33)
                        have k2 := blk2 w (.cells #[.int .i64 q, .string s, .string k, .string d, .int .u64 (limb n 0), .int .u64 (limb n 1), .int .u64 (limb n 2), .int .u64 (limb n 3), .string f, .string g, .int .i64 0, .int .i64 t] 35) 33 #[.string d, .int .u64 (limb n 0), .int .u64 (limb n 1), .int .u64 (limb n 2), .int .u64 (limb n 3), .string f, .string g]
                        have hB := BW_alloc (BW_alloc (BW_refl w) (.cells #[.int .i64 q, .string s, .string k, .string d, .int .u64 (limb n 0), .int .u64 (limb n 1), .int .u64 (limb n 2), .int .u64 (limb n 3), .string f, .string g, .int .i64 0, .int .i64 t] 35)) (.cells #[.string d, .int .u64 (limb n 0), .int .u64 (limb n 1), .int .u64 (limb n 2), .int .u64 (limb n 3), .string f, .string g] 33)
                        go_wp2_with (first
                            | (go_at_call 86; refine (within_any _ _ _).mono ?_; rintro e w2 ⟨rfl, rfl⟩; (first | (have := fl2; rw [W3.out]) | (have := fl1; rw [W2.out]; have fl2 := True.intro) | (rw [W1.out]; have fl1 := True.intro)))
                            | (go_at_call 72; refine (part_any _ _ (by omega)).mono ?_; first | (have := fl5; rintro e w2 ⟨rfl, hb2⟩; rw [H6.out]; replace hB := BW_on hB hb2; replace k1 := k1.on hb2; replace k2 := k2.on hb2; have co1 := (fun i => k1.cell i); have co2 := (fun i => k2.cell i); clear hb2) | (rintro e w2 ⟨rfl, hb2⟩; rw [H5.out]; have fl5 := True.intro; replace hB := BW_on hB hb2; replace k1 := k1.on hb2; replace k2 := k2.on hb2; have co1 := (fun i => k1.cell i); have co2 := (fun i => k2.cell i); clear hb2))
                            | (go_at_call 39; refine (check_any _ _ (by omega)).mono ?_; rintro e w2 ⟨rfl, hb2⟩; rw [H7.out]; replace hB := BW_on hB hb2; replace k1 := k1.on hb2; replace k2 := k2.on hb2; have co1 := (fun i => k1.cell i); have co2 := (fun i => k2.cell i); clear hb2)
                            | (go_at_call 87; refine (wzero_any n Hn.out _).mono ?_; rintro e w2 ⟨rfl, hb2⟩; rw [H8.out]; replace hB := BW_on hB hb2; replace k1 := k1.on hb2; replace k2 := k2.on hb2; have co1 := (fun i => k1.cell i); have co2 := (fun i => k2.cell i); clear hb2)
                            | (go_at_call 88; refine (plain_any _ _).mono ?_; first | (have := fl9; rintro e w2 ⟨rfl, rfl⟩; rw [H10.out]) | (rintro e w2 ⟨rfl, rfl⟩; rw [H9.out]; have fl9 := True.intro)))
                        go_ret
                        exact ⟨by rw [show ok = true from HP1.out A1.out A2.out A3.out A4.out H5.out H6.out H7.out A8.out H9.out H10.out]; rfl, hB⟩
                      · clear a4
                        go_enter Tryz.func64, Tryz.ntmps64
                        have k1 := (blk1 w 35 #[.int .i64 q, .string s, .string k, .string d, .int .u64 (limb n 0), .int .u64 (limb n 1), .int .u64 (limb n 2), .int .u64 (limb n 3), .string f, .string g, .int .i64 h, .int .i64 t]).alloc (.cells #[.string d, .int .u64 (limb n 0), .int .u64 (limb n 1), .int .u64 (limb n 2), .int .u64 (limb n 3), .string f, .string g] 33)
                        have k2 := blk2 w (.cells #[.int .i64 q, .string s, .string k, .string d, .int .u64 (limb n 0), .int .u64 (limb n 1), .int .u64 (limb n 2), .int .u64 (limb n 3), .string f, .string g, .int .i64 h, .int .i64 t] 35) 33 #[.string d, .int .u64 (limb n 0), .int .u64 (limb n 1), .int .u64 (limb n 2), .int .u64 (limb n 3), .string f, .string g]
                        have hB := BW_alloc (BW_alloc (BW_refl w) (.cells #[.int .i64 q, .string s, .string k, .string d, .int .u64 (limb n 0), .int .u64 (limb n 1), .int .u64 (limb n 2), .int .u64 (limb n 3), .string f, .string g, .int .i64 h, .int .i64 t] 35)) (.cells #[.string d, .int .u64 (limb n 0), .int .u64 (limb n 1), .int .u64 (limb n 2), .int .u64 (limb n 3), .string f, .string g] 33)
                        go_wp2_with (first
                            | (go_at_call 86; refine (within_any _ _ _).mono ?_; rintro e w2 ⟨rfl, rfl⟩; (first | (have := fl2; rw [W3.out]) | (have := fl1; rw [W2.out]; have fl2 := True.intro) | (rw [W1.out]; have fl1 := True.intro)))
                            | (go_at_call 72; refine (part_any _ _ (by omega)).mono ?_; first | (have := fl5; rintro e w2 ⟨rfl, hb2⟩; rw [H6.out]; replace hB := BW_on hB hb2; replace k1 := k1.on hb2; replace k2 := k2.on hb2; have co1 := (fun i => k1.cell i); have co2 := (fun i => k2.cell i); clear hb2) | (rintro e w2 ⟨rfl, hb2⟩; rw [H5.out]; have fl5 := True.intro; replace hB := BW_on hB hb2; replace k1 := k1.on hb2; replace k2 := k2.on hb2; have co1 := (fun i => k1.cell i); have co2 := (fun i => k2.cell i); clear hb2))
                            | (go_at_call 39; refine (check_any _ _ (by omega)).mono ?_; rintro e w2 ⟨rfl, hb2⟩; rw [H7.out]; replace hB := BW_on hB hb2; replace k1 := k1.on hb2; replace k2 := k2.on hb2; have co1 := (fun i => k1.cell i); have co2 := (fun i => k2.cell i); clear hb2)
                            | (go_at_call 87; refine (wzero_any n Hn.out _).mono ?_; rintro e w2 ⟨rfl, hb2⟩; rw [H8.out]; replace hB := BW_on hB hb2; replace k1 := k1.on hb2; replace k2 := k2.on hb2; have co1 := (fun i => k1.cell i); have co2 := (fun i => k2.cell i); clear hb2)
                            | (go_at_call 88; refine (plain_any _ _).mono ?_; first | (have := fl9; rintro e w2 ⟨rfl, rfl⟩; rw [H10.out]) | (rintro e w2 ⟨rfl, rfl⟩; rw [H9.out]; have fl9 := True.intro)))
                        go_ret
                        exact ⟨by rw [show ok = true from HP1.out A1.out A2.out A3.out A4.out H5.out H6.out H7.out A8.out H9.out H10.out]; rfl, hB⟩
                    · rw [Bool.not_eq_true] at a10
                      have H10 := Lib.hid a10
                      clear a5 a6 a7 a8 a9 a10
                      by_cases e0 : h = 0
                      · have e1 : ¬ t = 0 := fun z => A4.out ⟨e0, z⟩
                        clear a4
                        subst e0
                        go_enter Tryz.func64, Tryz.ntmps64
                        have k1 := (blk1 w 35 #[.int .i64 q, .string s, .string k, .string d, .int .u64 (limb n 0), .int .u64 (limb n 1), .int .u64 (limb n 2), .int .u64 (limb n 3), .string f, .string g, .int .i64 0, .int .i64 t]).alloc (.cells #[.string d, .int .u64 (limb n 0), .int .u64 (limb n 1), .int .u64 (limb n 2), .int .u64 (limb n 3), .string f, .string g] 33)
                        have k2 := blk2 w (.cells #[.int .i64 q, .string s, .string k, .string d, .int .u64 (limb n 0), .int .u64 (limb n 1), .int .u64 (limb n 2), .int .u64 (limb n 3), .string f, .string g, .int .i64 0, .int .i64 t] 35) 33 #[.string d, .int .u64 (limb n 0), .int .u64 (limb n 1), .int .u64 (limb n 2), .int .u64 (limb n 3), .string f, .string g]
                        have hB := BW_alloc (BW_alloc (BW_refl w) (.cells #[.int .i64 q, .string s, .string k, .string d, .int .u64 (limb n 0), .int .u64 (limb n 1), .int .u64 (limb n 2), .int .u64 (limb n 3), .string f, .string g, .int .i64 0, .int .i64 t] 35)) (.cells #[.string d, .int .u64 (limb n 0), .int .u64 (limb n 1), .int .u64 (limb n 2), .int .u64 (limb n 3), .string f, .string g] 33)
                        go_wp2_with (first
                            | (go_at_call 86; refine (within_any _ _ _).mono ?_; rintro e w2 ⟨rfl, rfl⟩; (first | (have := fl2; rw [W3.out]) | (have := fl1; rw [W2.out]; have fl2 := True.intro) | (rw [W1.out]; have fl1 := True.intro)))
                            | (go_at_call 72; refine (part_any _ _ (by omega)).mono ?_; first | (have := fl5; rintro e w2 ⟨rfl, hb2⟩; rw [H6.out]; replace hB := BW_on hB hb2; replace k1 := k1.on hb2; replace k2 := k2.on hb2; have co1 := (fun i => k1.cell i); have co2 := (fun i => k2.cell i); clear hb2) | (rintro e w2 ⟨rfl, hb2⟩; rw [H5.out]; have fl5 := True.intro; replace hB := BW_on hB hb2; replace k1 := k1.on hb2; replace k2 := k2.on hb2; have co1 := (fun i => k1.cell i); have co2 := (fun i => k2.cell i); clear hb2))
                            | (go_at_call 39; refine (check_any _ _ (by omega)).mono ?_; rintro e w2 ⟨rfl, hb2⟩; rw [H7.out]; replace hB := BW_on hB hb2; replace k1 := k1.on hb2; replace k2 := k2.on hb2; have co1 := (fun i => k1.cell i); have co2 := (fun i => k2.cell i); clear hb2)
                            | (go_at_call 87; refine (wzero_any n Hn.out _).mono ?_; rintro e w2 ⟨rfl, hb2⟩; rw [H8.out]; replace hB := BW_on hB hb2; replace k1 := k1.on hb2; replace k2 := k2.on hb2; have co1 := (fun i => k1.cell i); have co2 := (fun i => k2.cell i); clear hb2)
                            | (go_at_call 88; refine (plain_any _ _).mono ?_; first | (have := fl9; rintro e w2 ⟨rfl, rfl⟩; rw [H10.out]) | (rintro e w2 ⟨rfl, rfl⟩; rw [H9.out]; have fl9 := True.intro)))
                        go_ret
                        exact ⟨by rw [show ok = false from HP0.out (.inr (.inr (.inr (.inr (.inr (.inr (.inr (.inr (.inr (H10.out))))))))))]; rfl, hB⟩
                      · clear a4
                        go_enter Tryz.func64, Tryz.ntmps64
                        have k1 := (blk1 w 35 #[.int .i64 q, .string s, .string k, .string d, .int .u64 (limb n 0), .int .u64 (limb n 1), .int .u64 (limb n 2), .int .u64 (limb n 3), .string f, .string g, .int .i64 h, .int .i64 t]).alloc (.cells #[.string d, .int .u64 (limb n 0), .int .u64 (limb n 1), .int .u64 (limb n 2), .int .u64 (limb n 3), .string f, .string g] 33)
                        have k2 := blk2 w (.cells #[.int .i64 q, .string s, .string k, .string d, .int .u64 (limb n 0), .int .u64 (limb n 1), .int .u64 (limb n 2), .int .u64 (limb n 3), .string f, .string g, .int .i64 h, .int .i64 t] 35) 33 #[.string d, .int .u64 (limb n 0), .int .u64 (limb n 1), .int .u64 (limb n 2), .int .u64 (limb n 3), .string f, .string g]
                        have hB := BW_alloc (BW_alloc (BW_refl w) (.cells #[.int .i64 q, .string s, .string k, .string d, .int .u64 (limb n 0), .int .u64 (limb n 1), .int .u64 (limb n 2), .int .u64 (limb n 3), .string f, .string g, .int .i64 h, .int .i64 t] 35)) (.cells #[.string d, .int .u64 (limb n 0), .int .u64 (limb n 1), .int .u64 (limb n 2), .int .u64 (limb n 3), .string f, .string g] 33)
                        go_wp2_with (first
                            | (go_at_call 86; refine (within_any _ _ _).mono ?_; rintro e w2 ⟨rfl, rfl⟩; (first | (have := fl2; rw [W3.out]) | (have := fl1; rw [W2.out]; have fl2 := True.intro) | (rw [W1.out]; have fl1 := True.intro)))
                            | (go_at_call 72; refine (part_any _ _ (by omega)).mono ?_; first | (have := fl5; rintro e w2 ⟨rfl, hb2⟩; rw [H6.out]; replace hB := BW_on hB hb2; replace k1 := k1.on hb2; replace k2 := k2.on hb2; have co1 := (fun i => k1.cell i); have co2 := (fun i => k2.cell i); clear hb2) | (rintro e w2 ⟨rfl, hb2⟩; rw [H5.out]; have fl5 := True.intro; replace hB := BW_on hB hb2; replace k1 := k1.on hb2; replace k2 := k2.on hb2; have co1 := (fun i => k1.cell i); have co2 := (fun i => k2.cell i); clear hb2))
                            | (go_at_call 39; refine (check_any _ _ (by omega)).mono ?_; rintro e w2 ⟨rfl, hb2⟩; rw [H7.out]; replace hB := BW_on hB hb2; replace k1 := k1.on hb2; replace k2 := k2.on hb2; have co1 := (fun i => k1.cell i); have co2 := (fun i => k2.cell i); clear hb2)
                            | (go_at_call 87; refine (wzero_any n Hn.out _).mono ?_; rintro e w2 ⟨rfl, hb2⟩; rw [H8.out]; replace hB := BW_on hB hb2; replace k1 := k1.on hb2; replace k2 := k2.on hb2; have co1 := (fun i => k1.cell i); have co2 := (fun i => k2.cell i); clear hb2)
                            | (go_at_call 88; refine (plain_any _ _).mono ?_; first | (have := fl9; rintro e w2 ⟨rfl, rfl⟩; rw [H10.out]) | (rintro e w2 ⟨rfl, rfl⟩; rw [H9.out]; have fl9 := True.intro)))
                        go_ret
                        exact ⟨by rw [show ok = false from HP0.out (.inr (.inr (.inr (.inr (.inr (.inr (.inr (.inr (.inr (H10.out))))))))))]; rfl, hB⟩
                  · rw [Bool.not_eq_true] at a9
                    have H9 := Lib.hid a9
                    clear a5 a6 a7 a8 a9
                    by_cases e0 : h = 0
                    · have e1 : ¬ t = 0 := fun z => A4.out ⟨e0, z⟩
                      clear a4
                      subst e0
                      go_enter Tryz.func64, Tryz.ntmps64
                      have k1 := (blk1 w 35 #[.int .i64 q, .string s, .string k, .string d, .int .u64 (limb n 0), .int .u64 (limb n 1), .int .u64 (limb n 2), .int .u64 (limb n 3), .string f, .string g, .int .i64 0, .int .i64 t]).alloc (.cells #[.string d, .int .u64 (limb n 0), .int .u64 (limb n 1), .int .u64 (limb n 2), .int .u64 (limb n 3), .string f, .string g] 33)
                      have k2 := blk2 w (.cells #[.int .i64 q, .string s, .string k, .string d, .int .u64 (limb n 0), .int .u64 (limb n 1), .int .u64 (limb n 2), .int .u64 (limb n 3), .string f, .string g, .int .i64 0, .int .i64 t] 35) 33 #[.string d, .int .u64 (limb n 0), .int .u64 (limb n 1), .int .u64 (limb n 2), .int .u64 (limb n 3), .string f, .string g]
                      have hB := BW_alloc (BW_alloc (BW_refl w) (.cells #[.int .i64 q, .string s, .string k, .string d, .int .u64 (limb n 0), .int .u64 (limb n 1), .int .u64 (limb n 2), .int .u64 (limb n 3), .string f, .string g, .int .i64 0, .int .i64 t] 35)) (.cells #[.string d, .int .u64 (limb n 0), .int .u64 (limb n 1), .int .u64 (limb n 2), .int .u64 (limb n 3), .string f, .string g] 33)
                      go_wp2_with (first
                          | (go_at_call 86; refine (within_any _ _ _).mono ?_; rintro e w2 ⟨rfl, rfl⟩; (first | (have := fl2; rw [W3.out]) | (have := fl1; rw [W2.out]; have fl2 := True.intro) | (rw [W1.out]; have fl1 := True.intro)))
                          | (go_at_call 72; refine (part_any _ _ (by omega)).mono ?_; first | (have := fl5; rintro e w2 ⟨rfl, hb2⟩; rw [H6.out]; replace hB := BW_on hB hb2; replace k1 := k1.on hb2; replace k2 := k2.on hb2; have co1 := (fun i => k1.cell i); have co2 := (fun i => k2.cell i); clear hb2) | (rintro e w2 ⟨rfl, hb2⟩; rw [H5.out]; have fl5 := True.intro; replace hB := BW_on hB hb2; replace k1 := k1.on hb2; replace k2 := k2.on hb2; have co1 := (fun i => k1.cell i); have co2 := (fun i => k2.cell i); clear hb2))
                          | (go_at_call 39; refine (check_any _ _ (by omega)).mono ?_; rintro e w2 ⟨rfl, hb2⟩; rw [H7.out]; replace hB := BW_on hB hb2; replace k1 := k1.on hb2; replace k2 := k2.on hb2; have co1 := (fun i => k1.cell i); have co2 := (fun i => k2.cell i); clear hb2)
                          | (go_at_call 87; refine (wzero_any n Hn.out _).mono ?_; rintro e w2 ⟨rfl, hb2⟩; rw [H8.out]; replace hB := BW_on hB hb2; replace k1 := k1.on hb2; replace k2 := k2.on hb2; have co1 := (fun i => k1.cell i); have co2 := (fun i => k2.cell i); clear hb2)
                          | (go_at_call 88; refine (plain_any _ _).mono ?_; first | (have := fl9; rintro e w2 ⟨rfl, rfl⟩; rw [H10.out]) | (rintro e w2 ⟨rfl, rfl⟩; rw [H9.out]; have fl9 := True.intro)))
                      go_ret
                      exact ⟨by rw [show ok = false from HP0.out (.inr (.inr (.inr (.inr (.inr (.inr (.inr (.inr (.inl H9.out)))))))))]; rfl, hB⟩
                    · clear a4
                      go_enter Tryz.func64, Tryz.ntmps64
                      have k1 := (blk1 w 35 #[.int .i64 q, .string s, .string k, .string d, .int .u64 (limb n 0), .int .u64 (limb n 1), .int .u64 (limb n 2), .int .u64 (limb n 3), .string f, .string g, .int .i64 h, .int .i64 t]).alloc (.cells #[.string d, .int .u64 (limb n 0), .int .u64 (limb n 1), .int .u64 (limb n 2), .int .u64 (limb n 3), .string f, .string g] 33)
                      have k2 := blk2 w (.cells #[.int .i64 q, .string s, .string k, .string d, .int .u64 (limb n 0), .int .u64 (limb n 1), .int .u64 (limb n 2), .int .u64 (limb n 3), .string f, .string g, .int .i64 h, .int .i64 t] 35) 33 #[.string d, .int .u64 (limb n 0), .int .u64 (limb n 1), .int .u64 (limb n 2), .int .u64 (limb n 3), .string f, .string g]
                      have hB := BW_alloc (BW_alloc (BW_refl w) (.cells #[.int .i64 q, .string s, .string k, .string d, .int .u64 (limb n 0), .int .u64 (limb n 1), .int .u64 (limb n 2), .int .u64 (limb n 3), .string f, .string g, .int .i64 h, .int .i64 t] 35)) (.cells #[.string d, .int .u64 (limb n 0), .int .u64 (limb n 1), .int .u64 (limb n 2), .int .u64 (limb n 3), .string f, .string g] 33)
                      go_wp2_with (first
                          | (go_at_call 86; refine (within_any _ _ _).mono ?_; rintro e w2 ⟨rfl, rfl⟩; (first | (have := fl2; rw [W3.out]) | (have := fl1; rw [W2.out]; have fl2 := True.intro) | (rw [W1.out]; have fl1 := True.intro)))
                          | (go_at_call 72; refine (part_any _ _ (by omega)).mono ?_; first | (have := fl5; rintro e w2 ⟨rfl, hb2⟩; rw [H6.out]; replace hB := BW_on hB hb2; replace k1 := k1.on hb2; replace k2 := k2.on hb2; have co1 := (fun i => k1.cell i); have co2 := (fun i => k2.cell i); clear hb2) | (rintro e w2 ⟨rfl, hb2⟩; rw [H5.out]; have fl5 := True.intro; replace hB := BW_on hB hb2; replace k1 := k1.on hb2; replace k2 := k2.on hb2; have co1 := (fun i => k1.cell i); have co2 := (fun i => k2.cell i); clear hb2))
                          | (go_at_call 39; refine (check_any _ _ (by omega)).mono ?_; rintro e w2 ⟨rfl, hb2⟩; rw [H7.out]; replace hB := BW_on hB hb2; replace k1 := k1.on hb2; replace k2 := k2.on hb2; have co1 := (fun i => k1.cell i); have co2 := (fun i => k2.cell i); clear hb2)
                          | (go_at_call 87; refine (wzero_any n Hn.out _).mono ?_; rintro e w2 ⟨rfl, hb2⟩; rw [H8.out]; replace hB := BW_on hB hb2; replace k1 := k1.on hb2; replace k2 := k2.on hb2; have co1 := (fun i => k1.cell i); have co2 := (fun i => k2.cell i); clear hb2)
                          | (go_at_call 88; refine (plain_any _ _).mono ?_; first | (have := fl9; rintro e w2 ⟨rfl, rfl⟩; rw [H10.out]) | (rintro e w2 ⟨rfl, rfl⟩; rw [H9.out]; have fl9 := True.intro)))
                      go_ret
                      exact ⟨by rw [show ok = false from HP0.out (.inr (.inr (.inr (.inr (.inr (.inr (.inr (.inr (.inl H9.out)))))))))]; rfl, hB⟩
              · rw [Bool.not_eq_true] at a7
                have H7 := Lib.hid a7
                clear a5 a6 a7
                by_cases e0 : h = 0
                · have e1 : ¬ t = 0 := fun z => A4.out ⟨e0, z⟩
                  clear a4
                  subst e0
                  go_enter Tryz.func64, Tryz.ntmps64
                  have k1 := (blk1 w 35 #[.int .i64 q, .string s, .string k, .string d, .int .u64 (limb n 0), .int .u64 (limb n 1), .int .u64 (limb n 2), .int .u64 (limb n 3), .string f, .string g, .int .i64 0, .int .i64 t]).alloc (.cells #[.string d, .int .u64 (limb n 0), .int .u64 (limb n 1), .int .u64 (limb n 2), .int .u64 (limb n 3), .string f, .string g] 33)
                  have k2 := blk2 w (.cells #[.int .i64 q, .string s, .string k, .string d, .int .u64 (limb n 0), .int .u64 (limb n 1), .int .u64 (limb n 2), .int .u64 (limb n 3), .string f, .string g, .int .i64 0, .int .i64 t] 35) 33 #[.string d, .int .u64 (limb n 0), .int .u64 (limb n 1), .int .u64 (limb n 2), .int .u64 (limb n 3), .string f, .string g]
                  have hB := BW_alloc (BW_alloc (BW_refl w) (.cells #[.int .i64 q, .string s, .string k, .string d, .int .u64 (limb n 0), .int .u64 (limb n 1), .int .u64 (limb n 2), .int .u64 (limb n 3), .string f, .string g, .int .i64 0, .int .i64 t] 35)) (.cells #[.string d, .int .u64 (limb n 0), .int .u64 (limb n 1), .int .u64 (limb n 2), .int .u64 (limb n 3), .string f, .string g] 33)
                  go_wp2_with (first
                      | (go_at_call 86; refine (within_any _ _ _).mono ?_; rintro e w2 ⟨rfl, rfl⟩; (first | (have := fl2; rw [W3.out]) | (have := fl1; rw [W2.out]; have fl2 := True.intro) | (rw [W1.out]; have fl1 := True.intro)))
                      | (go_at_call 72; refine (part_any _ _ (by omega)).mono ?_; first | (have := fl5; rintro e w2 ⟨rfl, hb2⟩; rw [H6.out]; replace hB := BW_on hB hb2; replace k1 := k1.on hb2; replace k2 := k2.on hb2; have co1 := (fun i => k1.cell i); have co2 := (fun i => k2.cell i); clear hb2) | (rintro e w2 ⟨rfl, hb2⟩; rw [H5.out]; have fl5 := True.intro; replace hB := BW_on hB hb2; replace k1 := k1.on hb2; replace k2 := k2.on hb2; have co1 := (fun i => k1.cell i); have co2 := (fun i => k2.cell i); clear hb2))
                      | (go_at_call 39; refine (check_any _ _ (by omega)).mono ?_; rintro e w2 ⟨rfl, hb2⟩; rw [H7.out]; replace hB := BW_on hB hb2; replace k1 := k1.on hb2; replace k2 := k2.on hb2; have co1 := (fun i => k1.cell i); have co2 := (fun i => k2.cell i); clear hb2)
                      | (go_at_call 87; refine (wzero_any n Hn.out _).mono ?_; rintro e w2 ⟨rfl, hb2⟩; rw [H8.out]; replace hB := BW_on hB hb2; replace k1 := k1.on hb2; replace k2 := k2.on hb2; have co1 := (fun i => k1.cell i); have co2 := (fun i => k2.cell i); clear hb2)
                      | (go_at_call 88; refine (plain_any _ _).mono ?_; first | (have := fl9; rintro e w2 ⟨rfl, rfl⟩; rw [H10.out]) | (rintro e w2 ⟨rfl, rfl⟩; rw [H9.out]; have fl9 := True.intro)))
                  go_ret
                  exact ⟨by rw [show ok = false from HP0.out (.inr (.inr (.inr (.inr (.inr (.inr (.inl H7.out)))))))]; rfl, hB⟩
                · clear a4
                  go_enter Tryz.func64, Tryz.ntmps64
                  have k1 := (blk1 w 35 #[.int .i64 q, .string s, .string k, .string d, .int .u64 (limb n 0), .int .u64 (limb n 1), .int .u64 (limb n 2), .int .u64 (limb n 3), .string f, .string g, .int .i64 h, .int .i64 t]).alloc (.cells #[.string d, .int .u64 (limb n 0), .int .u64 (limb n 1), .int .u64 (limb n 2), .int .u64 (limb n 3), .string f, .string g] 33)
                  have k2 := blk2 w (.cells #[.int .i64 q, .string s, .string k, .string d, .int .u64 (limb n 0), .int .u64 (limb n 1), .int .u64 (limb n 2), .int .u64 (limb n 3), .string f, .string g, .int .i64 h, .int .i64 t] 35) 33 #[.string d, .int .u64 (limb n 0), .int .u64 (limb n 1), .int .u64 (limb n 2), .int .u64 (limb n 3), .string f, .string g]
                  have hB := BW_alloc (BW_alloc (BW_refl w) (.cells #[.int .i64 q, .string s, .string k, .string d, .int .u64 (limb n 0), .int .u64 (limb n 1), .int .u64 (limb n 2), .int .u64 (limb n 3), .string f, .string g, .int .i64 h, .int .i64 t] 35)) (.cells #[.string d, .int .u64 (limb n 0), .int .u64 (limb n 1), .int .u64 (limb n 2), .int .u64 (limb n 3), .string f, .string g] 33)
                  go_wp2_with (first
                      | (go_at_call 86; refine (within_any _ _ _).mono ?_; rintro e w2 ⟨rfl, rfl⟩; (first | (have := fl2; rw [W3.out]) | (have := fl1; rw [W2.out]; have fl2 := True.intro) | (rw [W1.out]; have fl1 := True.intro)))
                      | (go_at_call 72; refine (part_any _ _ (by omega)).mono ?_; first | (have := fl5; rintro e w2 ⟨rfl, hb2⟩; rw [H6.out]; replace hB := BW_on hB hb2; replace k1 := k1.on hb2; replace k2 := k2.on hb2; have co1 := (fun i => k1.cell i); have co2 := (fun i => k2.cell i); clear hb2) | (rintro e w2 ⟨rfl, hb2⟩; rw [H5.out]; have fl5 := True.intro; replace hB := BW_on hB hb2; replace k1 := k1.on hb2; replace k2 := k2.on hb2; have co1 := (fun i => k1.cell i); have co2 := (fun i => k2.cell i); clear hb2))
                      | (go_at_call 39; refine (check_any _ _ (by omega)).mono ?_; rintro e w2 ⟨rfl, hb2⟩; rw [H7.out]; replace hB := BW_on hB hb2; replace k1 := k1.on hb2; replace k2 := k2.on hb2; have co1 := (fun i => k1.cell i); have co2 := (fun i => k2.cell i); clear hb2)
                      | (go_at_call 87; refine (wzero_any n Hn.out _).mono ?_; rintro e w2 ⟨rfl, hb2⟩; rw [H8.out]; replace hB := BW_on hB hb2; replace k1 := k1.on hb2; replace k2 := k2.on hb2; have co1 := (fun i => k1.cell i); have co2 := (fun i => k2.cell i); clear hb2)
                      | (go_at_call 88; refine (plain_any _ _).mono ?_; first | (have := fl9; rintro e w2 ⟨rfl, rfl⟩; rw [H10.out]) | (rintro e w2 ⟨rfl, rfl⟩; rw [H9.out]; have fl9 := True.intro)))
                  go_ret
                  exact ⟨by rw [show ok = false from HP0.out (.inr (.inr (.inr (.inr (.inr (.inr (.inl H7.out)))))))]; rfl, hB⟩
            · rw [Bool.not_eq_true] at a6
              have H6 := Lib.hid a6
              clear a5 a6
              by_cases e0 : h = 0
              · have e1 : ¬ t = 0 := fun z => A4.out ⟨e0, z⟩
                clear a4
                subst e0
                go_enter Tryz.func64, Tryz.ntmps64
                have k1 := (blk1 w 35 #[.int .i64 q, .string s, .string k, .string d, .int .u64 (limb n 0), .int .u64 (limb n 1), .int .u64 (limb n 2), .int .u64 (limb n 3), .string f, .string g, .int .i64 0, .int .i64 t]).alloc (.cells #[.string d, .int .u64 (limb n 0), .int .u64 (limb n 1), .int .u64 (limb n 2), .int .u64 (limb n 3), .string f, .string g] 33)
                have k2 := blk2 w (.cells #[.int .i64 q, .string s, .string k, .string d, .int .u64 (limb n 0), .int .u64 (limb n 1), .int .u64 (limb n 2), .int .u64 (limb n 3), .string f, .string g, .int .i64 0, .int .i64 t] 35) 33 #[.string d, .int .u64 (limb n 0), .int .u64 (limb n 1), .int .u64 (limb n 2), .int .u64 (limb n 3), .string f, .string g]
                have hB := BW_alloc (BW_alloc (BW_refl w) (.cells #[.int .i64 q, .string s, .string k, .string d, .int .u64 (limb n 0), .int .u64 (limb n 1), .int .u64 (limb n 2), .int .u64 (limb n 3), .string f, .string g, .int .i64 0, .int .i64 t] 35)) (.cells #[.string d, .int .u64 (limb n 0), .int .u64 (limb n 1), .int .u64 (limb n 2), .int .u64 (limb n 3), .string f, .string g] 33)
                go_wp2_with (first
                    | (go_at_call 86; refine (within_any _ _ _).mono ?_; rintro e w2 ⟨rfl, rfl⟩; (first | (have := fl2; rw [W3.out]) | (have := fl1; rw [W2.out]; have fl2 := True.intro) | (rw [W1.out]; have fl1 := True.intro)))
                    | (go_at_call 72; refine (part_any _ _ (by omega)).mono ?_; first | (have := fl5; rintro e w2 ⟨rfl, hb2⟩; rw [H6.out]; replace hB := BW_on hB hb2; replace k1 := k1.on hb2; replace k2 := k2.on hb2; have co1 := (fun i => k1.cell i); have co2 := (fun i => k2.cell i); clear hb2) | (rintro e w2 ⟨rfl, hb2⟩; rw [H5.out]; have fl5 := True.intro; replace hB := BW_on hB hb2; replace k1 := k1.on hb2; replace k2 := k2.on hb2; have co1 := (fun i => k1.cell i); have co2 := (fun i => k2.cell i); clear hb2))
                    | (go_at_call 39; refine (check_any _ _ (by omega)).mono ?_; rintro e w2 ⟨rfl, hb2⟩; rw [H7.out]; replace hB := BW_on hB hb2; replace k1 := k1.on hb2; replace k2 := k2.on hb2; have co1 := (fun i => k1.cell i); have co2 := (fun i => k2.cell i); clear hb2)
                    | (go_at_call 87; refine (wzero_any n Hn.out _).mono ?_; rintro e w2 ⟨rfl, hb2⟩; rw [H8.out]; replace hB := BW_on hB hb2; replace k1 := k1.on hb2; replace k2 := k2.on hb2; have co1 := (fun i => k1.cell i); have co2 := (fun i => k2.cell i); clear hb2)
                    | (go_at_call 88; refine (plain_any _ _).mono ?_; first | (have := fl9; rintro e w2 ⟨rfl, rfl⟩; rw [H10.out]) | (rintro e w2 ⟨rfl, rfl⟩; rw [H9.out]; have fl9 := True.intro)))
                go_ret
                exact ⟨by rw [show ok = false from HP0.out (.inr (.inr (.inr (.inr (.inr (.inl H6.out))))))]; rfl, hB⟩
              · clear a4
                go_enter Tryz.func64, Tryz.ntmps64
                have k1 := (blk1 w 35 #[.int .i64 q, .string s, .string k, .string d, .int .u64 (limb n 0), .int .u64 (limb n 1), .int .u64 (limb n 2), .int .u64 (limb n 3), .string f, .string g, .int .i64 h, .int .i64 t]).alloc (.cells #[.string d, .int .u64 (limb n 0), .int .u64 (limb n 1), .int .u64 (limb n 2), .int .u64 (limb n 3), .string f, .string g] 33)
                have k2 := blk2 w (.cells #[.int .i64 q, .string s, .string k, .string d, .int .u64 (limb n 0), .int .u64 (limb n 1), .int .u64 (limb n 2), .int .u64 (limb n 3), .string f, .string g, .int .i64 h, .int .i64 t] 35) 33 #[.string d, .int .u64 (limb n 0), .int .u64 (limb n 1), .int .u64 (limb n 2), .int .u64 (limb n 3), .string f, .string g]
                have hB := BW_alloc (BW_alloc (BW_refl w) (.cells #[.int .i64 q, .string s, .string k, .string d, .int .u64 (limb n 0), .int .u64 (limb n 1), .int .u64 (limb n 2), .int .u64 (limb n 3), .string f, .string g, .int .i64 h, .int .i64 t] 35)) (.cells #[.string d, .int .u64 (limb n 0), .int .u64 (limb n 1), .int .u64 (limb n 2), .int .u64 (limb n 3), .string f, .string g] 33)
                go_wp2_with (first
                    | (go_at_call 86; refine (within_any _ _ _).mono ?_; rintro e w2 ⟨rfl, rfl⟩; (first | (have := fl2; rw [W3.out]) | (have := fl1; rw [W2.out]; have fl2 := True.intro) | (rw [W1.out]; have fl1 := True.intro)))
                    | (go_at_call 72; refine (part_any _ _ (by omega)).mono ?_; first | (have := fl5; rintro e w2 ⟨rfl, hb2⟩; rw [H6.out]; replace hB := BW_on hB hb2; replace k1 := k1.on hb2; replace k2 := k2.on hb2; have co1 := (fun i => k1.cell i); have co2 := (fun i => k2.cell i); clear hb2) | (rintro e w2 ⟨rfl, hb2⟩; rw [H5.out]; have fl5 := True.intro; replace hB := BW_on hB hb2; replace k1 := k1.on hb2; replace k2 := k2.on hb2; have co1 := (fun i => k1.cell i); have co2 := (fun i => k2.cell i); clear hb2))
                    | (go_at_call 39; refine (check_any _ _ (by omega)).mono ?_; rintro e w2 ⟨rfl, hb2⟩; rw [H7.out]; replace hB := BW_on hB hb2; replace k1 := k1.on hb2; replace k2 := k2.on hb2; have co1 := (fun i => k1.cell i); have co2 := (fun i => k2.cell i); clear hb2)
                    | (go_at_call 87; refine (wzero_any n Hn.out _).mono ?_; rintro e w2 ⟨rfl, hb2⟩; rw [H8.out]; replace hB := BW_on hB hb2; replace k1 := k1.on hb2; replace k2 := k2.on hb2; have co1 := (fun i => k1.cell i); have co2 := (fun i => k2.cell i); clear hb2)
                    | (go_at_call 88; refine (plain_any _ _).mono ?_; first | (have := fl9; rintro e w2 ⟨rfl, rfl⟩; rw [H10.out]) | (rintro e w2 ⟨rfl, rfl⟩; rw [H9.out]; have fl9 := True.intro)))
                go_ret
                exact ⟨by rw [show ok = false from HP0.out (.inr (.inr (.inr (.inr (.inr (.inl H6.out))))))]; rfl, hB⟩
          · rw [Bool.not_eq_true] at a5
            have H5 := Lib.hid a5
            clear a5
            by_cases e0 : h = 0
            · have e1 : ¬ t = 0 := fun z => A4.out ⟨e0, z⟩
              clear a4
              subst e0
              go_enter Tryz.func64, Tryz.ntmps64
              have k1 := (blk1 w 35 #[.int .i64 q, .string s, .string k, .string d, .int .u64 (limb n 0), .int .u64 (limb n 1), .int .u64 (limb n 2), .int .u64 (limb n 3), .string f, .string g, .int .i64 0, .int .i64 t]).alloc (.cells #[.string d, .int .u64 (limb n 0), .int .u64 (limb n 1), .int .u64 (limb n 2), .int .u64 (limb n 3), .string f, .string g] 33)
              have k2 := blk2 w (.cells #[.int .i64 q, .string s, .string k, .string d, .int .u64 (limb n 0), .int .u64 (limb n 1), .int .u64 (limb n 2), .int .u64 (limb n 3), .string f, .string g, .int .i64 0, .int .i64 t] 35) 33 #[.string d, .int .u64 (limb n 0), .int .u64 (limb n 1), .int .u64 (limb n 2), .int .u64 (limb n 3), .string f, .string g]
              have hB := BW_alloc (BW_alloc (BW_refl w) (.cells #[.int .i64 q, .string s, .string k, .string d, .int .u64 (limb n 0), .int .u64 (limb n 1), .int .u64 (limb n 2), .int .u64 (limb n 3), .string f, .string g, .int .i64 0, .int .i64 t] 35)) (.cells #[.string d, .int .u64 (limb n 0), .int .u64 (limb n 1), .int .u64 (limb n 2), .int .u64 (limb n 3), .string f, .string g] 33)
              go_wp2_with (first
                  | (go_at_call 86; refine (within_any _ _ _).mono ?_; rintro e w2 ⟨rfl, rfl⟩; (first | (have := fl2; rw [W3.out]) | (have := fl1; rw [W2.out]; have fl2 := True.intro) | (rw [W1.out]; have fl1 := True.intro)))
                  | (go_at_call 72; refine (part_any _ _ (by omega)).mono ?_; first | (have := fl5; rintro e w2 ⟨rfl, hb2⟩; rw [H6.out]; replace hB := BW_on hB hb2; replace k1 := k1.on hb2; replace k2 := k2.on hb2; have co1 := (fun i => k1.cell i); have co2 := (fun i => k2.cell i); clear hb2) | (rintro e w2 ⟨rfl, hb2⟩; rw [H5.out]; have fl5 := True.intro; replace hB := BW_on hB hb2; replace k1 := k1.on hb2; replace k2 := k2.on hb2; have co1 := (fun i => k1.cell i); have co2 := (fun i => k2.cell i); clear hb2))
                  | (go_at_call 39; refine (check_any _ _ (by omega)).mono ?_; rintro e w2 ⟨rfl, hb2⟩; rw [H7.out]; replace hB := BW_on hB hb2; replace k1 := k1.on hb2; replace k2 := k2.on hb2; have co1 := (fun i => k1.cell i); have co2 := (fun i => k2.cell i); clear hb2)
                  | (go_at_call 87; refine (wzero_any n Hn.out _).mono ?_; rintro e w2 ⟨rfl, hb2⟩; rw [H8.out]; replace hB := BW_on hB hb2; replace k1 := k1.on hb2; replace k2 := k2.on hb2; have co1 := (fun i => k1.cell i); have co2 := (fun i => k2.cell i); clear hb2)
                  | (go_at_call 88; refine (plain_any _ _).mono ?_; first | (have := fl9; rintro e w2 ⟨rfl, rfl⟩; rw [H10.out]) | (rintro e w2 ⟨rfl, rfl⟩; rw [H9.out]; have fl9 := True.intro)))
              go_ret
              exact ⟨by rw [show ok = false from HP0.out (.inr (.inr (.inr (.inr (.inl H5.out)))))]; rfl, hB⟩
            · clear a4
              go_enter Tryz.func64, Tryz.ntmps64
              have k1 := (blk1 w 35 #[.int .i64 q, .string s, .string k, .string d, .int .u64 (limb n 0), .int .u64 (limb n 1), .int .u64 (limb n 2), .int .u64 (limb n 3), .string f, .string g, .int .i64 h, .int .i64 t]).alloc (.cells #[.string d, .int .u64 (limb n 0), .int .u64 (limb n 1), .int .u64 (limb n 2), .int .u64 (limb n 3), .string f, .string g] 33)
              have k2 := blk2 w (.cells #[.int .i64 q, .string s, .string k, .string d, .int .u64 (limb n 0), .int .u64 (limb n 1), .int .u64 (limb n 2), .int .u64 (limb n 3), .string f, .string g, .int .i64 h, .int .i64 t] 35) 33 #[.string d, .int .u64 (limb n 0), .int .u64 (limb n 1), .int .u64 (limb n 2), .int .u64 (limb n 3), .string f, .string g]
              have hB := BW_alloc (BW_alloc (BW_refl w) (.cells #[.int .i64 q, .string s, .string k, .string d, .int .u64 (limb n 0), .int .u64 (limb n 1), .int .u64 (limb n 2), .int .u64 (limb n 3), .string f, .string g, .int .i64 h, .int .i64 t] 35)) (.cells #[.string d, .int .u64 (limb n 0), .int .u64 (limb n 1), .int .u64 (limb n 2), .int .u64 (limb n 3), .string f, .string g] 33)
              go_wp2_with (first
                  | (go_at_call 86; refine (within_any _ _ _).mono ?_; rintro e w2 ⟨rfl, rfl⟩; (first | (have := fl2; rw [W3.out]) | (have := fl1; rw [W2.out]; have fl2 := True.intro) | (rw [W1.out]; have fl1 := True.intro)))
                  | (go_at_call 72; refine (part_any _ _ (by omega)).mono ?_; first | (have := fl5; rintro e w2 ⟨rfl, hb2⟩; rw [H6.out]; replace hB := BW_on hB hb2; replace k1 := k1.on hb2; replace k2 := k2.on hb2; have co1 := (fun i => k1.cell i); have co2 := (fun i => k2.cell i); clear hb2) | (rintro e w2 ⟨rfl, hb2⟩; rw [H5.out]; have fl5 := True.intro; replace hB := BW_on hB hb2; replace k1 := k1.on hb2; replace k2 := k2.on hb2; have co1 := (fun i => k1.cell i); have co2 := (fun i => k2.cell i); clear hb2))
                  | (go_at_call 39; refine (check_any _ _ (by omega)).mono ?_; rintro e w2 ⟨rfl, hb2⟩; rw [H7.out]; replace hB := BW_on hB hb2; replace k1 := k1.on hb2; replace k2 := k2.on hb2; have co1 := (fun i => k1.cell i); have co2 := (fun i => k2.cell i); clear hb2)
                  | (go_at_call 87; refine (wzero_any n Hn.out _).mono ?_; rintro e w2 ⟨rfl, hb2⟩; rw [H8.out]; replace hB := BW_on hB hb2; replace k1 := k1.on hb2; replace k2 := k2.on hb2; have co1 := (fun i => k1.cell i); have co2 := (fun i => k2.cell i); clear hb2)
                  | (go_at_call 88; refine (plain_any _ _).mono ?_; first | (have := fl9; rintro e w2 ⟨rfl, rfl⟩; rw [H10.out]) | (rintro e w2 ⟨rfl, rfl⟩; rw [H9.out]; have fl9 := True.intro)))
              go_ret
              exact ⟨by rw [show ok = false from HP0.out (.inr (.inr (.inr (.inr (.inl H5.out)))))]; rfl, hB⟩
      · have W3 : Hid ((decide (0 ≤ t) && decide (t ≤ 1099511627776)) = false) := Lib.hid (by rw [Bool.eq_false_iff]; intro e; rw [Bool.and_eq_true, decide_eq_true_eq, decide_eq_true_eq] at e; exact a3 e)
        have A3 := Lib.hid a3
        clear a1 a2 a3
        go_enter Tryz.func64, Tryz.ntmps64
        have k1 := (blk1 w 35 #[.int .i64 q, .string s, .string k, .string d, .int .u64 (limb n 0), .int .u64 (limb n 1), .int .u64 (limb n 2), .int .u64 (limb n 3), .string f, .string g, .int .i64 h, .int .i64 t]).alloc (.cells #[.string d, .int .u64 (limb n 0), .int .u64 (limb n 1), .int .u64 (limb n 2), .int .u64 (limb n 3), .string f, .string g] 33)
        have k2 := blk2 w (.cells #[.int .i64 q, .string s, .string k, .string d, .int .u64 (limb n 0), .int .u64 (limb n 1), .int .u64 (limb n 2), .int .u64 (limb n 3), .string f, .string g, .int .i64 h, .int .i64 t] 35) 33 #[.string d, .int .u64 (limb n 0), .int .u64 (limb n 1), .int .u64 (limb n 2), .int .u64 (limb n 3), .string f, .string g]
        have hB := BW_alloc (BW_alloc (BW_refl w) (.cells #[.int .i64 q, .string s, .string k, .string d, .int .u64 (limb n 0), .int .u64 (limb n 1), .int .u64 (limb n 2), .int .u64 (limb n 3), .string f, .string g, .int .i64 h, .int .i64 t] 35)) (.cells #[.string d, .int .u64 (limb n 0), .int .u64 (limb n 1), .int .u64 (limb n 2), .int .u64 (limb n 3), .string f, .string g] 33)
        go_wp2_with (first
            | (go_at_call 86; refine (within_any _ _ _).mono ?_; rintro e w2 ⟨rfl, rfl⟩; (first | (have := fl2; rw [W3.out]) | (have := fl1; rw [W2.out]; have fl2 := True.intro) | (rw [W1.out]; have fl1 := True.intro)))
            | (go_at_call 72; refine (part_any _ _ (by omega)).mono ?_; first | (have := fl5; rintro e w2 ⟨rfl, hb2⟩; rw [H6.out]; replace hB := BW_on hB hb2; replace k1 := k1.on hb2; replace k2 := k2.on hb2; have co1 := (fun i => k1.cell i); have co2 := (fun i => k2.cell i); clear hb2) | (rintro e w2 ⟨rfl, hb2⟩; rw [H5.out]; have fl5 := True.intro; replace hB := BW_on hB hb2; replace k1 := k1.on hb2; replace k2 := k2.on hb2; have co1 := (fun i => k1.cell i); have co2 := (fun i => k2.cell i); clear hb2))
            | (go_at_call 39; refine (check_any _ _ (by omega)).mono ?_; rintro e w2 ⟨rfl, hb2⟩; rw [H7.out]; replace hB := BW_on hB hb2; replace k1 := k1.on hb2; replace k2 := k2.on hb2; have co1 := (fun i => k1.cell i); have co2 := (fun i => k2.cell i); clear hb2)
            | (go_at_call 87; refine (wzero_any n Hn.out _).mono ?_; rintro e w2 ⟨rfl, hb2⟩; rw [H8.out]; replace hB := BW_on hB hb2; replace k1 := k1.on hb2; replace k2 := k2.on hb2; have co1 := (fun i => k1.cell i); have co2 := (fun i => k2.cell i); clear hb2)
            | (go_at_call 88; refine (plain_any _ _).mono ?_; first | (have := fl9; rintro e w2 ⟨rfl, rfl⟩; rw [H10.out]) | (rintro e w2 ⟨rfl, rfl⟩; rw [H9.out]; have fl9 := True.intro)))
        go_ret
        exact ⟨by rw [show ok = false from HP0.out (.inr (.inr (.inl A3.out)))]; rfl, hB⟩
    · have W2 : Hid ((decide (0 ≤ h) && decide (h ≤ 1099511627776)) = false) := Lib.hid (by rw [Bool.eq_false_iff]; intro e; rw [Bool.and_eq_true, decide_eq_true_eq, decide_eq_true_eq] at e; exact a2 e)
      have A2 := Lib.hid a2
      clear a1 a2
      go_enter Tryz.func64, Tryz.ntmps64
      have k1 := (blk1 w 35 #[.int .i64 q, .string s, .string k, .string d, .int .u64 (limb n 0), .int .u64 (limb n 1), .int .u64 (limb n 2), .int .u64 (limb n 3), .string f, .string g, .int .i64 h, .int .i64 t]).alloc (.cells #[.string d, .int .u64 (limb n 0), .int .u64 (limb n 1), .int .u64 (limb n 2), .int .u64 (limb n 3), .string f, .string g] 33)
      have k2 := blk2 w (.cells #[.int .i64 q, .string s, .string k, .string d, .int .u64 (limb n 0), .int .u64 (limb n 1), .int .u64 (limb n 2), .int .u64 (limb n 3), .string f, .string g, .int .i64 h, .int .i64 t] 35) 33 #[.string d, .int .u64 (limb n 0), .int .u64 (limb n 1), .int .u64 (limb n 2), .int .u64 (limb n 3), .string f, .string g]
      have hB := BW_alloc (BW_alloc (BW_refl w) (.cells #[.int .i64 q, .string s, .string k, .string d, .int .u64 (limb n 0), .int .u64 (limb n 1), .int .u64 (limb n 2), .int .u64 (limb n 3), .string f, .string g, .int .i64 h, .int .i64 t] 35)) (.cells #[.string d, .int .u64 (limb n 0), .int .u64 (limb n 1), .int .u64 (limb n 2), .int .u64 (limb n 3), .string f, .string g] 33)
      go_wp2_with (first
          | (go_at_call 86; refine (within_any _ _ _).mono ?_; rintro e w2 ⟨rfl, rfl⟩; (first | (have := fl2; rw [W3.out]) | (have := fl1; rw [W2.out]; have fl2 := True.intro) | (rw [W1.out]; have fl1 := True.intro)))
          | (go_at_call 72; refine (part_any _ _ (by omega)).mono ?_; first | (have := fl5; rintro e w2 ⟨rfl, hb2⟩; rw [H6.out]; replace hB := BW_on hB hb2; replace k1 := k1.on hb2; replace k2 := k2.on hb2; have co1 := (fun i => k1.cell i); have co2 := (fun i => k2.cell i); clear hb2) | (rintro e w2 ⟨rfl, hb2⟩; rw [H5.out]; have fl5 := True.intro; replace hB := BW_on hB hb2; replace k1 := k1.on hb2; replace k2 := k2.on hb2; have co1 := (fun i => k1.cell i); have co2 := (fun i => k2.cell i); clear hb2))
          | (go_at_call 39; refine (check_any _ _ (by omega)).mono ?_; rintro e w2 ⟨rfl, hb2⟩; rw [H7.out]; replace hB := BW_on hB hb2; replace k1 := k1.on hb2; replace k2 := k2.on hb2; have co1 := (fun i => k1.cell i); have co2 := (fun i => k2.cell i); clear hb2)
          | (go_at_call 87; refine (wzero_any n Hn.out _).mono ?_; rintro e w2 ⟨rfl, hb2⟩; rw [H8.out]; replace hB := BW_on hB hb2; replace k1 := k1.on hb2; replace k2 := k2.on hb2; have co1 := (fun i => k1.cell i); have co2 := (fun i => k2.cell i); clear hb2)
          | (go_at_call 88; refine (plain_any _ _).mono ?_; first | (have := fl9; rintro e w2 ⟨rfl, rfl⟩; rw [H10.out]) | (rintro e w2 ⟨rfl, rfl⟩; rw [H9.out]; have fl9 := True.intro)))
      go_ret
      exact ⟨by rw [show ok = false from HP0.out (.inr (.inl A2.out))]; rfl, hB⟩
  · have W1 : Hid ((decide (1 ≤ q) && decide (q ≤ 1099511627776)) = false) := Lib.hid (by rw [Bool.eq_false_iff]; intro e; rw [Bool.and_eq_true, decide_eq_true_eq, decide_eq_true_eq] at e; exact a1 e)
    have A1 := Lib.hid a1
    clear a1
    go_enter Tryz.func64, Tryz.ntmps64
    have k1 := (blk1 w 35 #[.int .i64 q, .string s, .string k, .string d, .int .u64 (limb n 0), .int .u64 (limb n 1), .int .u64 (limb n 2), .int .u64 (limb n 3), .string f, .string g, .int .i64 h, .int .i64 t]).alloc (.cells #[.string d, .int .u64 (limb n 0), .int .u64 (limb n 1), .int .u64 (limb n 2), .int .u64 (limb n 3), .string f, .string g] 33)
    have k2 := blk2 w (.cells #[.int .i64 q, .string s, .string k, .string d, .int .u64 (limb n 0), .int .u64 (limb n 1), .int .u64 (limb n 2), .int .u64 (limb n 3), .string f, .string g, .int .i64 h, .int .i64 t] 35) 33 #[.string d, .int .u64 (limb n 0), .int .u64 (limb n 1), .int .u64 (limb n 2), .int .u64 (limb n 3), .string f, .string g]
    have hB := BW_alloc (BW_alloc (BW_refl w) (.cells #[.int .i64 q, .string s, .string k, .string d, .int .u64 (limb n 0), .int .u64 (limb n 1), .int .u64 (limb n 2), .int .u64 (limb n 3), .string f, .string g, .int .i64 h, .int .i64 t] 35)) (.cells #[.string d, .int .u64 (limb n 0), .int .u64 (limb n 1), .int .u64 (limb n 2), .int .u64 (limb n 3), .string f, .string g] 33)
    go_wp2_with (first
        | (go_at_call 86; refine (within_any _ _ _).mono ?_; rintro e w2 ⟨rfl, rfl⟩; (first | (have := fl2; rw [W3.out]) | (have := fl1; rw [W2.out]; have fl2 := True.intro) | (rw [W1.out]; have fl1 := True.intro)))
        | (go_at_call 72; refine (part_any _ _ (by omega)).mono ?_; first | (have := fl5; rintro e w2 ⟨rfl, hb2⟩; rw [H6.out]; replace hB := BW_on hB hb2; replace k1 := k1.on hb2; replace k2 := k2.on hb2; have co1 := (fun i => k1.cell i); have co2 := (fun i => k2.cell i); clear hb2) | (rintro e w2 ⟨rfl, hb2⟩; rw [H5.out]; have fl5 := True.intro; replace hB := BW_on hB hb2; replace k1 := k1.on hb2; replace k2 := k2.on hb2; have co1 := (fun i => k1.cell i); have co2 := (fun i => k2.cell i); clear hb2))
        | (go_at_call 39; refine (check_any _ _ (by omega)).mono ?_; rintro e w2 ⟨rfl, hb2⟩; rw [H7.out]; replace hB := BW_on hB hb2; replace k1 := k1.on hb2; replace k2 := k2.on hb2; have co1 := (fun i => k1.cell i); have co2 := (fun i => k2.cell i); clear hb2)
        | (go_at_call 87; refine (wzero_any n Hn.out _).mono ?_; rintro e w2 ⟨rfl, hb2⟩; rw [H8.out]; replace hB := BW_on hB hb2; replace k1 := k1.on hb2; replace k2 := k2.on hb2; have co1 := (fun i => k1.cell i); have co2 := (fun i => k2.cell i); clear hb2)
        | (go_at_call 88; refine (plain_any _ _).mono ?_; first | (have := fl9; rintro e w2 ⟨rfl, rfl⟩; rw [H10.out]) | (rintro e w2 ⟨rfl, rfl⟩; rw [H9.out]; have fl9 := True.intro)))
    go_ret
    exact ⟨by rw [show ok = false from HP0.out (.inl A1.out)]; rfl, hB⟩
end Go.Proofs.YtpcdgljcpacpiaaGreatDoor

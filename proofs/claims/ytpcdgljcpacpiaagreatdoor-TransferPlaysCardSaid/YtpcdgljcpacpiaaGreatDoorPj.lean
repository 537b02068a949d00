/- Layer 13 (packet): whether a packet may be, the document's. -/
import Derived.Test.YtpcdgljcpacpiaaGreatDoorPh
namespace Go.Proofs.YtpcdgljcpacpiaaGreatDoor
open Go.RowKit
attribute [local go_sem ↓] Go.wp_at_zero Go.wp_at_succ
set_option maxHeartbeats 4000000 in
set_option maxRecDepth 100000 in
theorem r13check_any (q h t : Int) (s k d f g : ByteArray) (n : Nat) (w : World) (zs : s.size ≤ 1000000) (zk : k.size ≤ 1000000) (zd : d.size ≤ 1000000) (zf : f.size ≤ 1000000) (zg : g.size ≤ 1000000) (hn : W256 n) : Calls Tryz.prog 26 #[.agg #[.int .i64 q, .string s, .string k, .string d, .int .u64 (limb n 0), .int .u64 (limb n 1), .int .u64 (limb n 2), .int .u64 (limb n 3), .string f, .string g, .int .i64 h, .int .i64 t]] w fun e w' => e = .returned (.int .i64 (chkN (okP q h t (bysN s) (bysN k) (bysN d) (bysN f) (bysN g) n))) ∧ Below w.heap.size w w' := by
  have HP0 : Hid (∀ _ : ¬ (1 ≤ q ∧ q ≤ 1099511627776) ∨ ¬ (0 ≤ h ∧ h ≤ 1099511627776) ∨ ¬ (0 ≤ t ∧ t ≤ 1099511627776) ∨ (h = 0 ∧ t = 0) ∨ okPart (bysN s) = false ∨ okPart (bysN k) = false ∨ okDen (bysN d) = false ∨ n = 0 ∨ okPlain (bysN f) = false ∨ okPlain (bysN g) = false, okP q h t (bysN s) (bysN k) (bysN d) (bysN f) (bysN g) n = false) := Lib.hid okP_false
  have HP1 := Lib.hid (@okP_true q h t (bysN s) (bysN k) (bysN d) (bysN f) (bysN g) n)
  have HE := Lib.hid (eqW0 n hn)
  clear hn
  generalize okP q h t (bysN s) (bysN k) (bysN d) (bysN f) (bysN g) n = ok at *
  obtain ⟨b5, h5⟩ : ∃ b, okPart (bysN s) = b := ⟨_, rfl⟩
  obtain ⟨b6, h6⟩ : ∃ b, okPart (bysN k) = b := ⟨_, rfl⟩
  obtain ⟨b7, h7⟩ : ∃ b, okDen (bysN d) = b := ⟨_, rfl⟩
  obtain ⟨b9, h9⟩ : ∃ b, okPlain (bysN f) = b := ⟨_, rfl⟩
  obtain ⟨b10, h10⟩ : ∃ b, okPlain (bysN g) = b := ⟨_, rfl⟩
  have H5 := Lib.hid h5
  have H6 := Lib.hid h6
  have H7 := Lib.hid h7
  have H9 := Lib.hid h9
  have H10 := Lib.hid h10
  clear h5 h6 h7 h9 h10
  cases b5
  · go_enter Tryz.func26, Tryz.ntmps26
    have k1 := (blk1 w 35 #[.int .i64 q, .string s, .string k, .string d, .int .u64 (limb n 0), .int .u64 (limb n 1), .int .u64 (limb n 2), .int .u64 (limb n 3), .string f, .string g, .int .i64 h, .int .i64 t]).alloc (.cells #[.int .u64 0, .int .u64 0, .int .u64 0, .int .u64 0] 31)
    have k2 := blk2 w (.cells #[.int .i64 q, .string s, .string k, .string d, .int .u64 (limb n 0), .int .u64 (limb n 1), .int .u64 (limb n 2), .int .u64 (limb n 3), .string f, .string g, .int .i64 h, .int .i64 t] 35) 31 #[.int .u64 0, .int .u64 0, .int .u64 0, .int .u64 0]
    have hB := BW_alloc (BW_alloc (BW_refl w) (.cells #[.int .i64 q, .string s, .string k, .string d, .int .u64 (limb n 0), .int .u64 (limb n 1), .int .u64 (limb n 2), .int .u64 (limb n 3), .string f, .string g, .int .i64 h, .int .i64 t] 35)) (.cells #[.int .u64 0, .int .u64 0, .int .u64 0, .int .u64 0] 31)
    go_wp2_with (first
        | (go_at_call 56; refine (r12part_any _ _ (by omega)).mono ?_; first | (have := fl5; rintro e w2 ⟨rfl, rfl⟩; rw [H6.out]) | (rintro e w2 ⟨rfl, rfl⟩; rw [H5.out]; have fl5 := True.intro))
        | (go_at_call 43; refine (r12check_any _ _ (by omega)).mono ?_; rintro e w2 ⟨rfl, hb2⟩; rw [H7.out]; replace hB := BW_on hB hb2; replace k1 := k1.on hb2; replace k2 := k2.on hb2; have co1 := (fun i => k1.cell i); have co2 := (fun i => k2.cell i); clear hb2)
        | (go_at_call 57; refine (r13plain_any _ _ (by omega)).mono ?_; first | (have := fl9; rintro e w2 ⟨rfl, rfl⟩; rw [H10.out]) | (rintro e w2 ⟨rfl, rfl⟩; rw [H9.out]; have fl9 := True.intro)))
    all_goals first | (go_ret; exact ⟨by rw [show ok = false from HP0.out (.inr (.inr (.inr (.inr (.inl H5.out)))))]; rfl, hB⟩) | (exfalso; rename_i hx; have z1 := A1.out; have z2 := A2.out; have z3 := A3.out; simp only [beq_iff_eq] at hx; omega) | (exfalso; rename_i x1 x2; exact absurd x1 (by simp [undef])) | (exfalso; rename_i x1 x2 x3; exact absurd x1 (by simp [undef]))
  · skip
    cases b6
    · go_enter Tryz.func26, Tryz.ntmps26
      have k1 := (blk1 w 35 #[.int .i64 q, .string s, .string k, .string d, .int .u64 (limb n 0), .int .u64 (limb n 1), .int .u64 (limb n 2), .int .u64 (limb n 3), .string f, .string g, .int .i64 h, .int .i64 t]).alloc (.cells #[.int .u64 0, .int .u64 0, .int .u64 0, .int .u64 0] 31)
      have k2 := blk2 w (.cells #[.int .i64 q, .string s, .string k, .string d, .int .u64 (limb n 0), .int .u64 (limb n 1), .int .u64 (limb n 2), .int .u64 (limb n 3), .string f, .string g, .int .i64 h, .int .i64 t] 35) 31 #[.int .u64 0, .int .u64 0, .int .u64 0, .int .u64 0]
      have hB := BW_alloc (BW_alloc (BW_refl w) (.cells #[.int .i64 q, .string s, .string k, .string d, .int .u64 (limb n 0), .int .u64 (limb n 1), .int .u64 (limb n 2), .int .u64 (limb n 3), .string f, .string g, .int .i64 h, .int .i64 t] 35)) (.cells #[.int .u64 0, .int .u64 0, .int .u64 0, .int .u64 0] 31)
      go_wp2_with (first
          | (go_at_call 56; refine (r12part_any _ _ (by omega)).mono ?_; first | (have := fl5; rintro e w2 ⟨rfl, rfl⟩; rw [H6.out]) | (rintro e w2 ⟨rfl, rfl⟩; rw [H5.out]; have fl5 := True.intro))
          | (go_at_call 43; refine (r12check_any _ _ (by omega)).mono ?_; rintro e w2 ⟨rfl, hb2⟩; rw [H7.out]; replace hB := BW_on hB hb2; replace k1 := k1.on hb2; replace k2 := k2.on hb2; have co1 := (fun i => k1.cell i); have co2 := (fun i => k2.cell i); clear hb2)
          | (go_at_call 57; refine (r13plain_any _ _ (by omega)).mono ?_; first | (have := fl9; rintro e w2 ⟨rfl, rfl⟩; rw [H10.out]) | (rintro e w2 ⟨rfl, rfl⟩; rw [H9.out]; have fl9 := True.intro)))
      all_goals first | (go_ret; exact ⟨by rw [show ok = false from HP0.out (.inr (.inr (.inr (.inr (.inr (.inl H6.out))))))]; rfl, hB⟩) | (exfalso; rename_i hx; have z1 := A1.out; have z2 := A2.out; have z3 := A3.out; simp only [beq_iff_eq] at hx; omega) | (exfalso; rename_i x1 x2; exact absurd x1 (by simp [undef])) | (exfalso; rename_i x1 x2 x3; exact absurd x1 (by simp [undef]))
    · skip
      cases b7
      · go_enter Tryz.func26, Tryz.ntmps26
        have k1 := (blk1 w 35 #[.int .i64 q, .string s, .string k, .string d, .int .u64 (limb n 0), .int .u64 (limb n 1), .int .u64 (limb n 2), .int .u64 (limb n 3), .string f, .string g, .int .i64 h, .int .i64 t]).alloc (.cells #[.int .u64 0, .int .u64 0, .int .u64 0, .int .u64 0] 31)
        have k2 := blk2 w (.cells #[.int .i64 q, .string s, .string k, .string d, .int .u64 (limb n 0), .int .u64 (limb n 1), .int .u64 (limb n 2), .int .u64 (limb n 3), .string f, .string g, .int .i64 h, .int .i64 t] 35) 31 #[.int .u64 0, .int .u64 0, .int .u64 0, .int .u64 0]
        have hB := BW_alloc (BW_alloc (BW_refl w) (.cells #[.int .i64 q, .string s, .string k, .string d, .int .u64 (limb n 0), .int .u64 (limb n 1), .int .u64 (limb n 2), .int .u64 (limb n 3), .string f, .string g, .int .i64 h, .int .i64 t] 35)) (.cells #[.int .u64 0, .int .u64 0, .int .u64 0, .int .u64 0] 31)
        go_wp2_with (first
            | (go_at_call 56; refine (r12part_any _ _ (by omega)).mono ?_; first | (have := fl5; rintro e w2 ⟨rfl, rfl⟩; rw [H6.out]) | (rintro e w2 ⟨rfl, rfl⟩; rw [H5.out]; have fl5 := True.intro))
            | (go_at_call 43; refine (r12check_any _ _ (by omega)).mono ?_; rintro e w2 ⟨rfl, hb2⟩; rw [H7.out]; replace hB := BW_on hB hb2; replace k1 := k1.on hb2; replace k2 := k2.on hb2; have co1 := (fun i => k1.cell i); have co2 := (fun i => k2.cell i); clear hb2)
            | (go_at_call 57; refine (r13plain_any _ _ (by omega)).mono ?_; first | (have := fl9; rintro e w2 ⟨rfl, rfl⟩; rw [H10.out]) | (rintro e w2 ⟨rfl, rfl⟩; rw [H9.out]; have fl9 := True.intro)))
        all_goals first | (go_ret; exact ⟨by rw [show ok = false from HP0.out (.inr (.inr (.inr (.inr (.inr (.inr (.inl H7.out)))))))]; rfl, hB⟩) | (exfalso; rename_i hx; have z1 := A1.out; have z2 := A2.out; have z3 := A3.out; simp only [beq_iff_eq] at hx; omega) | (exfalso; rename_i x1 x2; exact absurd x1 (by simp [undef])) | (exfalso; rename_i x1 x2 x3; exact absurd x1 (by simp [undef]))
      · skip
        cases b9
        · go_enter Tryz.func26, Tryz.ntmps26
          have k1 := (blk1 w 35 #[.int .i64 q, .string s, .string k, .string d, .int .u64 (limb n 0), .int .u64 (limb n 1), .int .u64 (limb n 2), .int .u64 (limb n 3), .string f, .string g, .int .i64 h, .int .i64 t]).alloc (.cells #[.int .u64 0, .int .u64 0, .int .u64 0, .int .u64 0] 31)
          have k2 := blk2 w (.cells #[.int .i64 q, .string s, .string k, .string d, .int .u64 (limb n 0), .int .u64 (limb n 1), .int .u64 (limb n 2), .int .u64 (limb n 3), .string f, .string g, .int .i64 h, .int .i64 t] 35) 31 #[.int .u64 0, .int .u64 0, .int .u64 0, .int .u64 0]
          have hB := BW_alloc (BW_alloc (BW_refl w) (.cells #[.int .i64 q, .string s, .string k, .string d, .int .u64 (limb n 0), .int .u64 (limb n 1), .int .u64 (limb n 2), .int .u64 (limb n 3), .string f, .string g, .int .i64 h, .int .i64 t] 35)) (.cells #[.int .u64 0, .int .u64 0, .int .u64 0, .int .u64 0] 31)
          go_wp2_with (first
              | (go_at_call 56; refine (r12part_any _ _ (by omega)).mono ?_; first | (have := fl5; rintro e w2 ⟨rfl, rfl⟩; rw [H6.out]) | (rintro e w2 ⟨rfl, rfl⟩; rw [H5.out]; have fl5 := True.intro))
              | (go_at_call 43; refine (r12check_any _ _ (by omega)).mono ?_; rintro e w2 ⟨rfl, hb2⟩; rw [H7.out]; replace hB := BW_on hB hb2; replace k1 := k1.on hb2; replace k2 := k2.on hb2; have co1 := (fun i => k1.cell i); have co2 := (fun i => k2.cell i); clear hb2)
              | (go_at_call 57; refine (r13plain_any _ _ (by omega)).mono ?_; first | (have := fl9; rintro e w2 ⟨rfl, rfl⟩; rw [H10.out]) | (rintro e w2 ⟨rfl, rfl⟩; rw [H9.out]; have fl9 := True.intro)))
          all_goals first | (go_ret; exact ⟨by rw [show ok = false from HP0.out (.inr (.inr (.inr (.inr (.inr (.inr (.inr (.inr (.inl H9.out)))))))))]; rfl, hB⟩) | (exfalso; rename_i hx; have z1 := A1.out; have z2 := A2.out; have z3 := A3.out; simp only [beq_iff_eq] at hx; omega) | (exfalso; rename_i x1 x2; exact absurd x1 (by simp [undef])) | (exfalso; rename_i x1 x2 x3; exact absurd x1 (by simp [undef]))
        · skip
          cases b10
          · go_enter Tryz.func26, Tryz.ntmps26
            have k1 := (blk1 w 35 #[.int .i64 q, .string s, .string k, .string d, .int .u64 (limb n 0), .int .u64 (limb n 1), .int .u64 (limb n 2), .int .u64 (limb n 3), .string f, .string g, .int .i64 h, .int .i64 t]).alloc (.cells #[.int .u64 0, .int .u64 0, .int .u64 0, .int .u64 0] 31)
            have k2 := blk2 w (.cells #[.int .i64 q, .string s, .string k, .string d, .int .u64 (limb n 0), .int .u64 (limb n 1), .int .u64 (limb n 2), .int .u64 (limb n 3), .string f, .string g, .int .i64 h, .int .i64 t] 35) 31 #[.int .u64 0, .int .u64 0, .int .u64 0, .int .u64 0]
            have hB := BW_alloc (BW_alloc (BW_refl w) (.cells #[.int .i64 q, .string s, .string k, .string d, .int .u64 (limb n 0), .int .u64 (limb n 1), .int .u64 (limb n 2), .int .u64 (limb n 3), .string f, .string g, .int .i64 h, .int .i64 t] 35)) (.cells #[.int .u64 0, .int .u64 0, .int .u64 0, .int .u64 0] 31)
            go_wp2_with (first
                | (go_at_call 56; refine (r12part_any _ _ (by omega)).mono ?_; first | (have := fl5; rintro e w2 ⟨rfl, rfl⟩; rw [H6.out]) | (rintro e w2 ⟨rfl, rfl⟩; rw [H5.out]; have fl5 := True.intro))
                | (go_at_call 43; refine (r12check_any _ _ (by omega)).mono ?_; rintro e w2 ⟨rfl, hb2⟩; rw [H7.out]; replace hB := BW_on hB hb2; replace k1 := k1.on hb2; replace k2 := k2.on hb2; have co1 := (fun i => k1.cell i); have co2 := (fun i => k2.cell i); clear hb2)
                | (go_at_call 57; refine (r13plain_any _ _ (by omega)).mono ?_; first | (have := fl9; rintro e w2 ⟨rfl, rfl⟩; rw [H10.out]) | (rintro e w2 ⟨rfl, rfl⟩; rw [H9.out]; have fl9 := True.intro)))
            all_goals first | (go_ret; exact ⟨by rw [show ok = false from HP0.out (.inr (.inr (.inr (.inr (.inr (.inr (.inr (.inr (.inr (H10.out))))))))))]; rfl, hB⟩) | (exfalso; rename_i hx; have z1 := A1.out; have z2 := A2.out; have z3 := A3.out; simp only [beq_iff_eq] at hx; omega) | (exfalso; rename_i x1 x2; exact absurd x1 (by simp [undef])) | (exfalso; rename_i x1 x2 x3; exact absurd x1 (by simp [undef]))
          · skip
            by_cases a8 : n = 0
            · have heq : ∀ w, (Op.equalIn 10000 31 (.agg #[.int .u64 (limb n 0), .int .u64 (limb n 1), .int .u64 (limb n 2), .int .u64 (limb n 3)]) (.agg #[.int .u64 0, .int .u64 0, .int .u64 0, .int .u64 0])).run Tryz.prog w = .ok true w := fun w => by rw [HE.out w, decide_eq_true a8]
              have A8 := Lib.hid a8
              clear a8
              go_enter Tryz.func26, Tryz.ntmps26
              have k1 := (blk1 w 35 #[.int .i64 q, .string s, .string k, .string d, .int .u64 (limb n 0), .int .u64 (limb n 1), .int .u64 (limb n 2), .int .u64 (limb n 3), .string f, .string g, .int .i64 h, .int .i64 t]).alloc (.cells #[.int .u64 0, .int .u64 0, .int .u64 0, .int .u64 0] 31)
              have k2 := blk2 w (.cells #[.int .i64 q, .string s, .string k, .string d, .int .u64 (limb n 0), .int .u64 (limb n 1), .int .u64 (limb n 2), .int .u64 (limb n 3), .string f, .string g, .int .i64 h, .int .i64 t] 35) 31 #[.int .u64 0, .int .u64 0, .int .u64 0, .int .u64 0]
              have hB := BW_alloc (BW_alloc (BW_refl w) (.cells #[.int .i64 q, .string s, .string k, .string d, .int .u64 (limb n 0), .int .u64 (limb n 1), .int .u64 (limb n 2), .int .u64 (limb n 3), .string f, .string g, .int .i64 h, .int .i64 t] 35)) (.cells #[.int .u64 0, .int .u64 0, .int .u64 0, .int .u64 0] 31)
              go_wp2_with (first
                  | (go_at_call 56; refine (r12part_any _ _ (by omega)).mono ?_; first | (have := fl5; rintro e w2 ⟨rfl, rfl⟩; rw [H6.out]) | (rintro e w2 ⟨rfl, rfl⟩; rw [H5.out]; have fl5 := True.intro))
                  | (go_at_call 43; refine (r12check_any _ _ (by omega)).mono ?_; rintro e w2 ⟨rfl, hb2⟩; rw [H7.out]; replace hB := BW_on hB hb2; replace k1 := k1.on hb2; replace k2 := k2.on hb2; have co1 := (fun i => k1.cell i); have co2 := (fun i => k2.cell i); clear hb2)
                  | (go_at_call 57; refine (r13plain_any _ _ (by omega)).mono ?_; first | (have := fl9; rintro e w2 ⟨rfl, rfl⟩; rw [H10.out]) | (rintro e w2 ⟨rfl, rfl⟩; rw [H9.out]; have fl9 := True.intro)))
              all_goals first | (go_ret; exact ⟨by rw [show ok = false from HP0.out (.inr (.inr (.inr (.inr (.inr (.inr (.inr (.inl A8.out))))))))]; rfl, hB⟩) | (exfalso; rename_i hx; have z1 := A1.out; have z2 := A2.out; have z3 := A3.out; simp only [beq_iff_eq] at hx; omega) | (exfalso; rename_i x1 x2; exact absurd x1 (by simp [undef])) | (exfalso; rename_i x1 x2 x3; exact absurd x1 (by simp [undef]))
            · have heq : ∀ w, (Op.equalIn 10000 31 (.agg #[.int .u64 (limb n 0), .int .u64 (limb n 1), .int .u64 (limb n 2), .int .u64 (limb n 3)]) (.agg #[.int .u64 0, .int .u64 0, .int .u64 0, .int .u64 0])).run Tryz.prog w = .ok false w := fun w => by rw [HE.out w, decide_eq_false a8]
              have A8 := Lib.hid a8
              clear a8
              by_cases x1 : q < 1
              · have X := Lib.hid (show ¬ (1 ≤ q ∧ q ≤ 1099511627776) by omega)
                go_enter Tryz.func26, Tryz.ntmps26
                have k1 := (blk1 w 35 #[.int .i64 q, .string s, .string k, .string d, .int .u64 (limb n 0), .int .u64 (limb n 1), .int .u64 (limb n 2), .int .u64 (limb n 3), .string f, .string g, .int .i64 h, .int .i64 t]).alloc (.cells #[.int .u64 0, .int .u64 0, .int .u64 0, .int .u64 0] 31)
                have k2 := blk2 w (.cells #[.int .i64 q, .string s, .string k, .string d, .int .u64 (limb n 0), .int .u64 (limb n 1), .int .u64 (limb n 2), .int .u64 (limb n 3), .string f, .string g, .int .i64 h, .int .i64 t] 35) 31 #[.int .u64 0, .int .u64 0, .int .u64 0, .int .u64 0]
                have hB := BW_alloc (BW_alloc (BW_refl w) (.cells #[.int .i64 q, .string s, .string k, .string d, .int .u64 (limb n 0), .int .u64 (limb n 1), .int .u64 (limb n 2), .int .u64 (limb n 3), .string f, .string g, .int .i64 h, .int .i64 t] 35)) (.cells #[.int .u64 0, .int .u64 0, .int .u64 0, .int .u64 0] 31)
                go_wp2_with (first
                    | (go_at_call 56; refine (r12part_any _ _ (by omega)).mono ?_; first | (have := fl5; rintro e w2 ⟨rfl, rfl⟩; rw [H6.out]) | (rintro e w2 ⟨rfl, rfl⟩; rw [H5.out]; have fl5 := True.intro))
                    | (go_at_call 43; refine (r12check_any _ _ (by omega)).mono ?_; rintro e w2 ⟨rfl, hb2⟩; rw [H7.out]; replace hB := BW_on hB hb2; replace k1 := k1.on hb2; replace k2 := k2.on hb2; have co1 := (fun i => k1.cell i); have co2 := (fun i => k2.cell i); clear hb2)
                    | (go_at_call 57; refine (r13plain_any _ _ (by omega)).mono ?_; first | (have := fl9; rintro e w2 ⟨rfl, rfl⟩; rw [H10.out]) | (rintro e w2 ⟨rfl, rfl⟩; rw [H9.out]; have fl9 := True.intro)))
                all_goals first | (go_ret; exact ⟨by rw [show ok = false from HP0.out (.inl X.out)]; rfl, hB⟩) | (exfalso; rename_i hx; have z1 := A1.out; have z2 := A2.out; have z3 := A3.out; simp only [beq_iff_eq] at hx; omega) | (exfalso; rename_i x1 x2; exact absurd x1 (by simp [undef])) | (exfalso; rename_i x1 x2 x3; exact absurd x1 (by simp [undef]))
              · skip
                by_cases y1 : 1099511627776 < q
                · have X := Lib.hid (show ¬ (1 ≤ q ∧ q ≤ 1099511627776) by omega)
                  go_enter Tryz.func26, Tryz.ntmps26
                  have k1 := (blk1 w 35 #[.int .i64 q, .string s, .string k, .string d, .int .u64 (limb n 0), .int .u64 (limb n 1), .int .u64 (limb n 2), .int .u64 (limb n 3), .string f, .string g, .int .i64 h, .int .i64 t]).alloc (.cells #[.int .u64 0, .int .u64 0, .int .u64 0, .int .u64 0] 31)
                  have k2 := blk2 w (.cells #[.int .i64 q, .string s, .string k, .string d, .int .u64 (limb n 0), .int .u64 (limb n 1), .int .u64 (limb n 2), .int .u64 (limb n 3), .string f, .string g, .int .i64 h, .int .i64 t] 35) 31 #[.int .u64 0, .int .u64 0, .int .u64 0, .int .u64 0]
                  have hB := BW_alloc (BW_alloc (BW_refl w) (.cells #[.int .i64 q, .string s, .string k, .string d, .int .u64 (limb n 0), .int .u64 (limb n 1), .int .u64 (limb n 2), .int .u64 (limb n 3), .string f, .string g, .int .i64 h, .int .i64 t] 35)) (.cells #[.int .u64 0, .int .u64 0, .int .u64 0, .int .u64 0] 31)
                  go_wp2_with (first
                      | (go_at_call 56; refine (r12part_any _ _ (by omega)).mono ?_; first | (have := fl5; rintro e w2 ⟨rfl, rfl⟩; rw [H6.out]) | (rintro e w2 ⟨rfl, rfl⟩; rw [H5.out]; have fl5 := True.intro))
                      | (go_at_call 43; refine (r12check_any _ _ (by omega)).mono ?_; rintro e w2 ⟨rfl, hb2⟩; rw [H7.out]; replace hB := BW_on hB hb2; replace k1 := k1.on hb2; replace k2 := k2.on hb2; have co1 := (fun i => k1.cell i); have co2 := (fun i => k2.cell i); clear hb2)
                      | (go_at_call 57; refine (r13plain_any _ _ (by omega)).mono ?_; first | (have := fl9; rintro e w2 ⟨rfl, rfl⟩; rw [H10.out]) | (rintro e w2 ⟨rfl, rfl⟩; rw [H9.out]; have fl9 := True.intro)))
                  all_goals first | (go_ret; exact ⟨by rw [show ok = false from HP0.out (.inl X.out)]; rfl, hB⟩) | (exfalso; rename_i hx; have z1 := A1.out; have z2 := A2.out; have z3 := A3.out; simp only [beq_iff_eq] at hx; omega) | (exfalso; rename_i x1 x2; exact absurd x1 (by simp [undef])) | (exfalso; rename_i x1 x2 x3; exact absurd x1 (by simp [undef]))
                · skip
                  by_cases x2 : h < 0
                  · have X := Lib.hid (show ¬ (0 ≤ h ∧ h ≤ 1099511627776) by omega)
                    go_enter Tryz.func26, Tryz.ntmps26
                    have k1 := (blk1 w 35 #[.int .i64 q, .string s, .string k, .string d, .int .u64 (limb n 0), .int .u64 (limb n 1), .int .u64 (limb n 2), .int .u64 (limb n 3), .string f, .string g, .int .i64 h, .int .i64 t]).alloc (.cells #[.int .u64 0, .int .u64 0, .int .u64 0, .int .u64 0] 31)
                    have k2 := blk2 w (.cells #[.int .i64 q, .string s, .string k, .string d, .int .u64 (limb n 0), .int .u64 (limb n 1), .int .u64 (limb n 2), .int .u64 (limb n 3), .string f, .string g, .int .i64 h, .int .i64 t] 35) 31 #[.int .u64 0, .int .u64 0, .int .u64 0, .int .u64 0]
                    have hB := BW_alloc (BW_alloc (BW_refl w) (.cells #[.int .i64 q, .string s, .string k, .string d, .int .u64 (limb n 0), .int .u64 (limb n 1), .int .u64 (limb n 2), .int .u64 (limb n 3), .string f, .string g, .int .i64 h, .int .i64 t] 35)) (.cells #[.int .u64 0, .int .u64 0, .int .u64 0, .int .u64 0] 31)
                    go_wp2_with (first
                        | (go_at_call 56; refine (r12part_any _ _ (by omega)).mono ?_; first | (have := fl5; rintro e w2 ⟨rfl, rfl⟩; rw [H6.out]) | (rintro e w2 ⟨rfl, rfl⟩; rw [H5.out]; have fl5 := True.intro))
                        | (go_at_call 43; refine (r12check_any _ _ (by omega)).mono ?_; rintro e w2 ⟨rfl, hb2⟩; rw [H7.out]; replace hB := BW_on hB hb2; replace k1 := k1.on hb2; replace k2 := k2.on hb2; have co1 := (fun i => k1.cell i); have co2 := (fun i => k2.cell i); clear hb2)
                        | (go_at_call 57; refine (r13plain_any _ _ (by omega)).mono ?_; first | (have := fl9; rintro e w2 ⟨rfl, rfl⟩; rw [H10.out]) | (rintro e w2 ⟨rfl, rfl⟩; rw [H9.out]; have fl9 := True.intro)))
                    all_goals first | (go_ret; exact ⟨by rw [show ok = false from HP0.out (.inr (.inl X.out))]; rfl, hB⟩) | (exfalso; rename_i hx; have z1 := A1.out; have z2 := A2.out; have z3 := A3.out; simp only [beq_iff_eq] at hx; omega) | (exfalso; rename_i x1 x2; exact absurd x1 (by simp [undef])) | (exfalso; rename_i x1 x2 x3; exact absurd x1 (by simp [undef]))
                  · skip
                    by_cases y2 : 1099511627776 < h
                    · have X := Lib.hid (show ¬ (0 ≤ h ∧ h ≤ 1099511627776) by omega)
                      go_enter Tryz.func26, Tryz.ntmps26
                      have k1 := (blk1 w 35 #[.int .i64 q, .string s, .string k, .string d, .int .u64 (limb n 0), .int .u64 (limb n 1), .int .u64 (limb n 2), .int .u64 (limb n 3), .string f, .string g, .int .i64 h, .int .i64 t]).alloc (.cells #[.int .u64 0, .int .u64 0, .int .u64 0, .int .u64 0] 31)
                      have k2 := blk2 w (.cells #[.int .i64 q, .string s, .string k, .string d, .int .u64 (limb n 0), .int .u64 (limb n 1), .int .u64 (limb n 2), .int .u64 (limb n 3), .string f, .string g, .int .i64 h, .int .i64 t] 35) 31 #[.int .u64 0, .int .u64 0, .int .u64 0, .int .u64 0]
                      have hB := BW_alloc (BW_alloc (BW_refl w) (.cells #[.int .i64 q, .string s, .string k, .string d, .int .u64 (limb n 0), .int .u64 (limb n 1), .int .u64 (limb n 2), .int .u64 (limb n 3), .string f, .string g, .int .i64 h, .int .i64 t] 35)) (.cells #[.int .u64 0, .int .u64 0, .int .u64 0, .int .u64 0] 31)
                      go_wp2_with (first
                          | (go_at_call 56; refine (r12part_any _ _ (by omega)).mono ?_; first | (have := fl5; rintro e w2 ⟨rfl, rfl⟩; rw [H6.out]) | (rintro e w2 ⟨rfl, rfl⟩; rw [H5.out]; have fl5 := True.intro))
                          | (go_at_call 43; refine (r12check_any _ _ (by omega)).mono ?_; rintro e w2 ⟨rfl, hb2⟩; rw [H7.out]; replace hB := BW_on hB hb2; replace k1 := k1.on hb2; replace k2 := k2.on hb2; have co1 := (fun i => k1.cell i); have co2 := (fun i => k2.cell i); clear hb2)
                          | (go_at_call 57; refine (r13plain_any _ _ (by omega)).mono ?_; first | (have := fl9; rintro e w2 ⟨rfl, rfl⟩; rw [H10.out]) | (rintro e w2 ⟨rfl, rfl⟩; rw [H9.out]; have fl9 := True.intro)))
                      all_goals first | (go_ret; exact ⟨by rw [show ok = false from HP0.out (.inr (.inl X.out))]; rfl, hB⟩) | (exfalso; rename_i hx; have z1 := A1.out; have z2 := A2.out; have z3 := A3.out; simp only [beq_iff_eq] at hx; omega) | (exfalso; rename_i x1 x2; exact absurd x1 (by simp [undef])) | (exfalso; rename_i x1 x2 x3; exact absurd x1 (by simp [undef]))
                    · skip
                      by_cases x3 : t < 0
                      · have X := Lib.hid (show ¬ (0 ≤ t ∧ t ≤ 1099511627776) by omega)
                        go_enter Tryz.func26, Tryz.ntmps26
                        have k1 := (blk1 w 35 #[.int .i64 q, .string s, .string k, .string d, .int .u64 (limb n 0), .int .u64 (limb n 1), .int .u64 (limb n 2), .int .u64 (limb n 3), .string f, .string g, .int .i64 h, .int .i64 t]).alloc (.cells #[.int .u64 0, .int .u64 0, .int .u64 0, .int .u64 0] 31)
                        have k2 := blk2 w (.cells #[.int .i64 q, .string s, .string k, .string d, .int .u64 (limb n 0), .int .u64 (limb n 1), .int .u64 (limb n 2), .int .u64 (limb n 3), .string f, .string g, .int .i64 h, .int .i64 t] 35) 31 #[.int .u64 0, .int .u64 0, .int .u64 0, .int .u64 0]
                        have hB := BW_alloc (BW_alloc (BW_refl w) (.cells #[.int .i64 q, .string s, .string k, .string d, .int .u64 (limb n 0), .int .u64 (limb n 1), .int .u64 (limb n 2), .int .u64 (limb n 3), .string f, .string g, .int .i64 h, .int .i64 t] 35)) (.cells #[.int .u64 0, .int .u64 0, .int .u64 0, .int .u64 0] 31)
                        go_wp2_with (first
                            | (go_at_call 56; refine (r12part_any _ _ (by omega)).mono ?_; first | (have := fl5; rintro e w2 ⟨rfl, rfl⟩; rw [H6.out]) | (rintro e w2 ⟨rfl, rfl⟩; rw [H5.out]; have fl5 := True.intro))
                            | (go_at_call 43; refine (r12check_any _ _ (by omega)).mono ?_; rintro e w2 ⟨rfl, hb2⟩; rw [H7.out]; replace hB := BW_on hB hb2; replace k1 := k1.on hb2; replace k2 := k2.on hb2; have co1 := (fun i => k1.cell i); have co2 := (fun i => k2.cell i); clear hb2)
                            | (go_at_call 57; refine (r13plain_any _ _ (by omega)).mono ?_; first | (have := fl9; rintro e w2 ⟨rfl, rfl⟩; rw [H10.out]) | (rintro e w2 ⟨rfl, rfl⟩; rw [H9.out]; have fl9 := True.intro)))
                        all_goals first | (go_ret; exact ⟨by rw [show ok = false from HP0.out (.inr (.inr (.inl X.out)))]; rfl, hB⟩) | (exfalso; rename_i hx; have z1 := A1.out; have z2 := A2.out; have z3 := A3.out; simp only [beq_iff_eq] at hx; omega) | (exfalso; rename_i x1 x2; exact absurd x1 (by simp [undef])) | (exfalso; rename_i x1 x2 x3; exact absurd x1 (by simp [undef]))
                      · skip
                        by_cases y3 : 1099511627776 < t
                        · have X := Lib.hid (show ¬ (0 ≤ t ∧ t ≤ 1099511627776) by omega)
                          go_enter Tryz.func26, Tryz.ntmps26
                          have k1 := (blk1 w 35 #[.int .i64 q, .string s, .string k, .string d, .int .u64 (limb n 0), .int .u64 (limb n 1), .int .u64 (limb n 2), .int .u64 (limb n 3), .string f, .string g, .int .i64 h, .int .i64 t]).alloc (.cells #[.int .u64 0, .int .u64 0, .int .u64 0, .int .u64 0] 31)
                          have k2 := blk2 w (.cells #[.int .i64 q, .string s, .string k, .string d, .int .u64 (limb n 0), .int .u64 (limb n 1), .int .u64 (limb n 2), .int .u64 (limb n 3), .string f, .string g, .int .i64 h, .int .i64 t] 35) 31 #[.int .u64 0, .int .u64 0, .int .u64 0, .int .u64 0]
                          have hB := BW_alloc (BW_alloc (BW_refl w) (.cells #[.int .i64 q, .string s, .string k, .string d, .int .u64 (limb n 0), .int .u64 (limb n 1), .int .u64 (limb n 2), .int .u64 (limb n 3), .string f, .string g, .int .i64 h, .int .i64 t] 35)) (.cells #[.int .u64 0, .int .u64 0, .int .u64 0, .int .u64 0] 31)
                          go_wp2_with (first
                              | (go_at_call 56; refine (r12part_any _ _ (by omega)).mono ?_; first | (have := fl5; rintro e w2 ⟨rfl, rfl⟩; rw [H6.out]) | (rintro e w2 ⟨rfl, rfl⟩; rw [H5.out]; have fl5 := True.intro))
                              | (go_at_call 43; refine (r12check_any _ _ (by omega)).mono ?_; rintro e w2 ⟨rfl, hb2⟩; rw [H7.out]; replace hB := BW_on hB hb2; replace k1 := k1.on hb2; replace k2 := k2.on hb2; have co1 := (fun i => k1.cell i); have co2 := (fun i => k2.cell i); clear hb2)
                              | (go_at_call 57; refine (r13plain_any _ _ (by omega)).mono ?_; first | (have := fl9; rintro e w2 ⟨rfl, rfl⟩; rw [H10.out]) | (rintro e w2 ⟨rfl, rfl⟩; rw [H9.out]; have fl9 := True.intro)))
                          all_goals first | (go_ret; exact ⟨by rw [show ok = false from HP0.out (.inr (.inr (.inl X.out)))]; rfl, hB⟩) | (exfalso; rename_i hx; have z1 := A1.out; have z2 := A2.out; have z3 := A3.out; simp only [beq_iff_eq] at hx; omega) | (exfalso; rename_i x1 x2; exact absurd x1 (by simp [undef])) | (exfalso; rename_i x1 x2 x3; exact absurd x1 (by simp [undef]))
                        · skip
                          have A1 := Lib.hid (show 1 ≤ q ∧ q ≤ 1099511627776 by omega)
                          have A2 := Lib.hid (show 0 ≤ h ∧ h ≤ 1099511627776 by omega)
                          have A3 := Lib.hid (show 0 ≤ t ∧ t ≤ 1099511627776 by omega)
                          by_cases e0 : h = 0
                          · subst e0
                            by_cases e1 : t = 0
                            · subst e1
                              go_enter Tryz.func26, Tryz.ntmps26
                              have k1 := (blk1 w 35 #[.int .i64 q, .string s, .string k, .string d, .int .u64 (limb n 0), .int .u64 (limb n 1), .int .u64 (limb n 2), .int .u64 (limb n 3), .string f, .string g, .int .i64 0, .int .i64 0]).alloc (.cells #[.int .u64 0, .int .u64 0, .int .u64 0, .int .u64 0] 31)
                              have k2 := blk2 w (.cells #[.int .i64 q, .string s, .string k, .string d, .int .u64 (limb n 0), .int .u64 (limb n 1), .int .u64 (limb n 2), .int .u64 (limb n 3), .string f, .string g, .int .i64 0, .int .i64 0] 35) 31 #[.int .u64 0, .int .u64 0, .int .u64 0, .int .u64 0]
                              have hB := BW_alloc (BW_alloc (BW_refl w) (.cells #[.int .i64 q, .string s, .string k, .string d, .int .u64 (limb n 0), .int .u64 (limb n 1), .int .u64 (limb n 2), .int .u64 (limb n 3), .string f, .string g, .int .i64 0, .int .i64 0] 35)) (.cells #[.int .u64 0, .int .u64 0, .int .u64 0, .int .u64 0] 31)
                              go_wp2_with (first
                                  | (go_at_call 56; refine (r12part_any _ _ (by omega)).mono ?_; first | (have := fl5; rintro e w2 ⟨rfl, rfl⟩; rw [H6.out]) | (rintro e w2 ⟨rfl, rfl⟩; rw [H5.out]; have fl5 := True.intro))
                                  | (go_at_call 43; refine (r12check_any _ _ (by omega)).mono ?_; rintro e w2 ⟨rfl, hb2⟩; rw [H7.out]; replace hB := BW_on hB hb2; replace k1 := k1.on hb2; replace k2 := k2.on hb2; have co1 := (fun i => k1.cell i); have co2 := (fun i => k2.cell i); clear hb2)
                                  | (go_at_call 57; refine (r13plain_any _ _ (by omega)).mono ?_; first | (have := fl9; rintro e w2 ⟨rfl, rfl⟩; rw [H10.out]) | (rintro e w2 ⟨rfl, rfl⟩; rw [H9.out]; have fl9 := True.intro)))
                              all_goals first | (go_ret; exact ⟨by rw [show ok = false from HP0.out (.inr (.inr (.inr (.inl (by first | exact ⟨rfl, rfl⟩ | trivial)))))]; rfl, hB⟩) | (exfalso; rename_i hx; have z1 := A1.out; have z2 := A2.out; have z3 := A3.out; simp only [beq_iff_eq] at hx; omega) | (exfalso; rename_i x1 x2; exact absurd x1 (by simp [undef])) | (exfalso; rename_i x1 x2 x3; exact absurd x1 (by simp [undef]))
                            · have A4 := Lib.hid e1
                              go_enter Tryz.func26, Tryz.ntmps26
                              have k1 := (blk1 w 35 #[.int .i64 q, .string s, .string k, .string d, .int .u64 (limb n 0), .int .u64 (limb n 1), .int .u64 (limb n 2), .int .u64 (limb n 3), .string f, .string g, .int .i64 0, .int .i64 t]).alloc (.cells #[.int .u64 0, .int .u64 0, .int .u64 0, .int .u64 0] 31)
                              have k2 := blk2 w (.cells #[.int .i64 q, .string s, .string k, .string d, .int .u64 (limb n 0), .int .u64 (limb n 1), .int .u64 (limb n 2), .int .u64 (limb n 3), .string f, .string g, .int .i64 0, .int .i64 t] 35) 31 #[.int .u64 0, .int .u64 0, .int .u64 0, .int .u64 0]
                              have hB := BW_alloc (BW_alloc (BW_refl w) (.cells #[.int .i64 q, .string s, .string k, .string d, .int .u64 (limb n 0), .int .u64 (limb n 1), .int .u64 (limb n 2), .int .u64 (limb n 3), .string f, .string g, .int .i64 0, .int .i64 t] 35)) (.cells #[.int .u64 0, .int .u64 0, .int .u64 0, .int .u64 0] 31)
                              go_wp2_with (first
                                  | (go_at_call 56; refine (r12part_any _ _ (by omega)).mono ?_; first | (have := fl5; rintro e w2 ⟨rfl, rfl⟩; rw [H6.out]) | (rintro e w2 ⟨rfl, rfl⟩; rw [H5.out]; have fl5 := True.intro))
                                  | (go_at_call 43; refine (r12check_any _ _ (by omega)).mono ?_; rintro e w2 ⟨rfl, hb2⟩; rw [H7.out]; replace hB := BW_on hB hb2; replace k1 := k1.on hb2; replace k2 := k2.on hb2; have co1 := (fun i => k1.cell i); have co2 := (fun i => k2.cell i); clear hb2)
                                  | (go_at_call 57; refine (r13plain_any _ _ (by omega)).mono ?_; first | (have := fl9; rintro e w2 ⟨rfl, rfl⟩; rw [H10.out]) | (rintro e w2 ⟨rfl, rfl⟩; rw [H9.out]; have fl9 := True.intro)))
                              all_goals first | (go_ret; exact ⟨by rw [show ok = true from HP1.out A1.out A2.out A3.out (fun z => A4.out z.2) H5.out H6.out H7.out A8.out H9.out H10.out]; rfl, hB⟩) | (exfalso; rename_i hx; have z1 := A1.out; have z2 := A2.out; have z3 := A3.out; simp only [beq_iff_eq] at hx; omega) | (exfalso; rename_i x1 x2; exact absurd x1 (by simp [undef])) | (exfalso; rename_i x1 x2 x3; exact absurd x1 (by simp [undef]))
                          · have A4 := Lib.hid e0
                            go_enter Tryz.func26, Tryz.ntmps26
                            have k1 := (blk1 w 35 #[.int .i64 q, .string s, .string k, .string d, .int .u64 (limb n 0), .int .u64 (limb n 1), .int .u64 (limb n 2), .int .u64 (limb n 3), .string f, .string g, .int .i64 h, .int .i64 t]).alloc (.cells #[.int .u64 0, .int .u64 0, .int .u64 0, .int .u64 0] 31)
                            have k2 := blk2 w (.cells #[.int .i64 q, .string s, .string k, .string d, .int .u64 (limb n 0), .int .u64 (limb n 1), .int .u64 (limb n 2), .int .u64 (limb n 3), .string f, .string g, .int .i64 h, .int .i64 t] 35) 31 #[.int .u64 0, .int .u64 0, .int .u64 0, .int .u64 0]
                            have hB := BW_alloc (BW_alloc (BW_refl w) (.cells #[.int .i64 q, .string s, .string k, .string d, .int .u64 (limb n 0), .int .u64 (limb n 1), .int .u64 (limb n 2), .int .u64 (limb n 3), .string f, .string g, .int .i64 h, .int .i64 t] 35)) (.cells #[.int .u64 0, .int .u64 0, .int .u64 0, .int .u64 0] 31)
                            go_wp2_with (first
                                | (go_at_call 56; refine (r12part_any _ _ (by omega)).mono ?_; first | (have := fl5; rintro e w2 ⟨rfl, rfl⟩; rw [H6.out]) | (rintro e w2 ⟨rfl, rfl⟩; rw [H5.out]; have fl5 := True.intro))
                                | (go_at_call 43; refine (r12check_any _ _ (by omega)).mono ?_; rintro e w2 ⟨rfl, hb2⟩; rw [H7.out]; replace hB := BW_on hB hb2; replace k1 := k1.on hb2; replace k2 := k2.on hb2; have co1 := (fun i => k1.cell i); have co2 := (fun i => k2.cell i); clear hb2)
                                | (go_at_call 57; refine (r13plain_any _ _ (by omega)).mono ?_; first | (have := fl9; rintro e w2 ⟨rfl, rfl⟩; rw [H10.out]) | (rintro e w2 ⟨rfl, rfl⟩; rw [H9.out]; have fl9 := True.intro)))
                            all_goals first | (go_ret; exact ⟨by rw [show ok = true from HP1.out A1.out A2.out A3.out (fun z => A4.out z.1) H5.out H6.out H7.out A8.out H9.out H10.out]; rfl, hB⟩) | (exfalso; rename_i hx; have z1 := A1.out; have z2 := A2.out; have z3 := A3.out; simp only [beq_iff_eq] at hx; omega) | (exfalso; rename_i x1 x2; exact absurd x1 (by simp [undef])) | (exfalso; rename_i x1 x2 x3; exact absurd x1 (by simp [undef]))
end Go.Proofs.YtpcdgljcpacpiaaGreatDoor

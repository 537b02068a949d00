/- Bank's ops: an op done to a map, and to the document's. -/
import Derived.Test.YtiaflghhfcnjlaaBj
import Derived.Test.YtiaflghhfcnjlaaBi
import Derived.Test.YtiaflghhfcnjlaaBn
namespace Go.Proofs.Ytiaflghhfcnjlaa
open Go.RowKit
attribute [local go_sem ↓] Go.wp_at_zero Go.wp_at_succ
/-- What an op comes to. -/
def opL (k : Int) (E : List Ent) (f t d : ByteArray) (n : Nat) : Int × List Ent := if k = 2 then burnL E f d n else if k = 3 then moveL E f t d n else mintL E f d n
theorem op_inv {E : List Ent} (hs : Srt E) (k : Int) (f t d : ByteArray) (n : Nat) : Srt (opL k E f t d n).2 ∧ (opL k E f t d n).2.length ≤ E.length + 2 := by
  unfold opL
  split
  · exact burn_inv hs _ _ _
  · split
    · exact move_inv hs _ _ _ _
    · exact mint_inv hs _ _ _
set_option maxHeartbeats 4000000 in
set_option maxRecDepth 100000 in
theorem of11_any (v u : Value) (E F : List Ent) (kd : Int) (f t d : ByteArray) (n : Nat) (raw sm : Bool) (w : World) (hv : Ents w v E) (hu : Ents w u F) (hs : Srt E) (hs2 : Srt F) (hl : E.length ≤ 1800) (hl2 : F.length ≤ 1800) (hn : W256 n) :
    Calls Try.prog 21 #[.agg #[.int .i64 kd, .string f, .string t, .string d, .int .u64 (limb n 0), .int .u64 (limb n 1), .int .u64 (limb n 2), .int .u64 (limb n 3), .bool raw, .bool sm], .agg #[v], u] w fun e w' => ∃ q cap v', e = .returned (.tuple #[.agg #[.slice q (opL (bits .and .i64 kd 3) E f t d n).2.length cap], .int .i64 (opL (bits .and .i64 kd 3) E f t d n).1, v', .int .i64 (opL (bits .and .i64 kd 3) F f t d n).1]) ∧
      Ents w' (.slice q (opL (bits .and .i64 kd 3) E f t d n).2.length cap) (opL (bits .and .i64 kd 3) E f t d n).2 ∧ Ents w' v' (opL (bits .and .i64 kd 3) F f t d n).2 ∧ Below w.heap.size w w' := by
  obtain ⟨q, cap, rfl⟩ := hv.len
  have hb0 := BW_alloc (BW_alloc (BW_alloc (BW_refl w) (.cells #[.int .i64 kd, .string f, .string t, .string d, .int .u64 (limb n 0), .int .u64 (limb n 1), .int .u64 (limb n 2), .int .u64 (limb n 3), .bool raw, .bool sm] 35)) (.cells #[.slice q E.length cap] 26)) (.cells #[.slice none 0 0] 26)
  have k1 := ((blk1 w 35 #[.int .i64 kd, .string f, .string t, .string d, .int .u64 (limb n 0), .int .u64 (limb n 1), .int .u64 (limb n 2), .int .u64 (limb n 3), .bool raw, .bool sm]).alloc (.cells #[.slice q E.length cap] 26)).alloc (.cells #[.slice none 0 0] 26)
  have k2 := (blk2 w (.cells #[.int .i64 kd, .string f, .string t, .string d, .int .u64 (limb n 0), .int .u64 (limb n 1), .int .u64 (limb n 2), .int .u64 (limb n 3), .bool raw, .bool sm] 35) 26 #[.slice q E.length cap]).alloc (.cells #[.slice none 0 0] 26)
  have ko := blk3 w (.cells #[.int .i64 kd, .string f, .string t, .string d, .int .u64 (limb n 0), .int .u64 (limb n 1), .int .u64 (limb n 2), .int .u64 (limb n 3), .bool raw, .bool sm] 35) (.cells #[.slice q E.length cap] 26) 26 #[.slice none 0 0]
  have hv0 := Lib.hid (hv.on hb0)
  have hu0 := Lib.hid (hu.on hb0)
  have c1 := fun i => k1.cell i
  have c2 := fun i => k2.cell i
  clear hv hu
  by_cases hk2 : bits .and .i64 kd 3 = 2
  · have HE : Hid (opL (bits .and .i64 kd 3) E f t d n = burnL E f d n) := Lib.hid (by unfold opL; rw [if_pos hk2])
    have HF : Hid (opL (bits .and .i64 kd 3) F f t d n = burnL F f d n) := Lib.hid (by unfold opL; rw [if_pos hk2])
    rcases hR1 : burnL E f d n with ⟨x, L⟩
    rcases hR2 : burnL F f d n with ⟨y, M⟩
    have P1 := fun v w hv => bburn_any v E f d n w hv hs hl hn
    have P2 := fun v w hv => r11burn_any v F f d n w hv hs2 hl2 hn
    rw [hR1] at P1
    rw [hR2] at P2
    have P1 := Lib.hid P1
    have P2 := Lib.hid P2
    have HR1 := Lib.hid hR1
    have HR2 := Lib.hid hR2
    clear hR1 hR2
    go_enter Try.func21, Try.ntmps21
    go_wp2_with fail
    refine (P1.out _ _ hv0.out).mono ?_
    rintro e w1 ⟨q1, x1, rfl, hen1, hb1⟩
    clear c1 c2
    have k1b := (k1.on hb1).alloc (.cells #[.slice q1 L.length x1] 26)
    have k3 := blk1 w1 26 #[.slice q1 L.length x1]
    have kob := (ko.on hb1).alloc (.cells #[.slice q1 L.length x1] 26)
    have hbb := BW_alloc (BW_on hb0 hb1) (.cells #[.slice q1 L.length x1] 26)
    have hub := Lib.hid ((hu0.out.on hb1).on (BW_alloc (BW_refl _) (.cells #[.slice q1 L.length x1] 26)))
    have hen1b := Lib.hid (hen1.on (BW_alloc (BW_refl _) (.cells #[.slice q1 L.length x1] 26)))
    have c1 := fun i => k1b.cell i
    have c3 := fun i => k3.cell i
    clear hb1 hen1
    go_wp2_with fail
    refine (P2.out _ _ hub.out).mono ?_
    rintro e w2 ⟨v2, rfl, hen2, hb2⟩
    clear c1 c3
    have k3c := k3.on hb2
    have koc := kob.on hb2
    have hbc := BW_on hbb hb2
    have hf1 := (hen1b.out.on hb2).box koc (.slice q1 L.length x1)
    have hf2 := hen2.box koc (.slice q1 L.length x1)
    have hbf := hbc.setCell (p := ⟨w.heap.size + 1 + 1, 0, none⟩) (by show w.heap.size ≤ w.heap.size + 1 + 1; omega) (.slice q1 L.length x1)
    have c3 := fun i => k3c.cell i
    have co := fun i => koc.cell i
    have fo := fun i => koc.free i
    clear hb2 hen2
    go_wp2_with fail
    have hcc := fun i => (koc.set_ 0 (.slice q1 L.length x1)).cell i
    refine bodyPost_ret (v := .tuple #[.agg #[.slice q1 L.length x1], .int .i64 x, v2, .int .i64 y]) (by simp [results, Try.results21, go_sem, hcc]) rfl ?_
    rw [HE.out, HF.out, HR1.out, HR2.out]
    exact ⟨q1, x1, v2, rfl, hf1, hf2, hbf⟩
  · by_cases hk3 : bits .and .i64 kd 3 = 3
    · have HE : Hid (opL (bits .and .i64 kd 3) E f t d n = moveL E f t d n) := Lib.hid (by unfold opL; rw [if_neg hk2, if_pos hk3])
      have HF : Hid (opL (bits .and .i64 kd 3) F f t d n = moveL F f t d n) := Lib.hid (by unfold opL; rw [if_neg hk2, if_pos hk3])
      rcases hR1 : moveL E f t d n with ⟨x, L⟩
      rcases hR2 : moveL F f t d n with ⟨y, M⟩
      have P1 := fun v w hv => bmove_any v E f t d n w hv hs hl hn
      have P2 := fun v w hv => r11move_any v F f t d n w hv hs2 hl2 hn
      rw [hR1] at P1
      rw [hR2] at P2
      have P1 := Lib.hid P1
      have P2 := Lib.hid P2
      have HR1 := Lib.hid hR1
      have HR2 := Lib.hid hR2
      clear hR1 hR2
      go_enter Try.func21, Try.ntmps21
      go_wp2_with fail
      refine (P1.out _ _ hv0.out).mono ?_
      rintro e w1 ⟨q1, x1, rfl, hen1, hb1⟩
      clear c1 c2
      have k1b := (k1.on hb1).alloc (.cells #[.slice q1 L.length x1] 26)
      have k3 := blk1 w1 26 #[.slice q1 L.length x1]
      have kob := (ko.on hb1).alloc (.cells #[.slice q1 L.length x1] 26)
      have hbb := BW_alloc (BW_on hb0 hb1) (.cells #[.slice q1 L.length x1] 26)
      have hub := Lib.hid ((hu0.out.on hb1).on (BW_alloc (BW_refl _) (.cells #[.slice q1 L.length x1] 26)))
      have hen1b := Lib.hid (hen1.on (BW_alloc (BW_refl _) (.cells #[.slice q1 L.length x1] 26)))
      have c1 := fun i => k1b.cell i
      have c3 := fun i => k3.cell i
      clear hb1 hen1
      go_wp2_with fail
      refine (P2.out _ _ hub.out).mono ?_
      rintro e w2 ⟨v2, rfl, hen2, hb2⟩
      clear c1 c3
      have k3c := k3.on hb2
      have koc := kob.on hb2
      have hbc := BW_on hbb hb2
      have hf1 := (hen1b.out.on hb2).box koc (.slice q1 L.length x1)
      have hf2 := hen2.box koc (.slice q1 L.length x1)
      have hbf := hbc.setCell (p := ⟨w.heap.size + 1 + 1, 0, none⟩) (by show w.heap.size ≤ w.heap.size + 1 + 1; omega) (.slice q1 L.length x1)
      have c3 := fun i => k3c.cell i
      have co := fun i => koc.cell i
      have fo := fun i => koc.free i
      clear hb2 hen2
      go_wp2_with fail
      have hcc := fun i => (koc.set_ 0 (.slice q1 L.length x1)).cell i
      refine bodyPost_ret (v := .tuple #[.agg #[.slice q1 L.length x1], .int .i64 x, v2, .int .i64 y]) (by simp [results, Try.results21, go_sem, hcc]) rfl ?_
      rw [HE.out, HF.out, HR1.out, HR2.out]
      exact ⟨q1, x1, v2, rfl, hf1, hf2, hbf⟩
    · have HE : Hid (opL (bits .and .i64 kd 3) E f t d n = mintL E f d n) := Lib.hid (by unfold opL; rw [if_neg hk2, if_neg hk3])
      have HF : Hid (opL (bits .and .i64 kd 3) F f t d n = mintL F f d n) := Lib.hid (by unfold opL; rw [if_neg hk2, if_neg hk3])
      rcases hR1 : mintL E f d n with ⟨x, L⟩
      rcases hR2 : mintL F f d n with ⟨y, M⟩
      have P1 := fun v w hv => bmint_any v E f d n w hv hs hl hn
      have P2 := fun v w hv => r11mint_any v F f d n w hv hs2 hl2 hn
      rw [hR1] at P1
      rw [hR2] at P2
      have P1 := Lib.hid P1
      have P2 := Lib.hid P2
      have HR1 := Lib.hid hR1
      have HR2 := Lib.hid hR2
      clear hR1 hR2
      go_enter Try.func21, Try.ntmps21
      go_wp2_with fail
      refine (P1.out _ _ hv0.out).mono ?_
      rintro e w1 ⟨q1, x1, rfl, hen1, hb1⟩
      clear c1 c2
      have k1b := (k1.on hb1).alloc (.cells #[.slice q1 L.length x1] 26)
      have k3 := blk1 w1 26 #[.slice q1 L.length x1]
      have kob := (ko.on hb1).alloc (.cells #[.slice q1 L.length x1] 26)
      have hbb := BW_alloc (BW_on hb0 hb1) (.cells #[.slice q1 L.length x1] 26)
      have hub := Lib.hid ((hu0.out.on hb1).on (BW_alloc (BW_refl _) (.cells #[.slice q1 L.length x1] 26)))
      have hen1b := Lib.hid (hen1.on (BW_alloc (BW_refl _) (.cells #[.slice q1 L.length x1] 26)))
      have c1 := fun i => k1b.cell i
      have c3 := fun i => k3.cell i
      clear hb1 hen1
      go_wp2_with fail
      refine (P2.out _ _ hub.out).mono ?_
      rintro e w2 ⟨v2, rfl, hen2, hb2⟩
      clear c1 c3
      have k3c := k3.on hb2
      have koc := kob.on hb2
      have hbc := BW_on hbb hb2
      have hf1 := (hen1b.out.on hb2).box koc (.slice q1 L.length x1)
      have hf2 := hen2.box koc (.slice q1 L.length x1)
      have hbf := hbc.setCell (p := ⟨w.heap.size + 1 + 1, 0, none⟩) (by show w.heap.size ≤ w.heap.size + 1 + 1; omega) (.slice q1 L.length x1)
      have c3 := fun i => k3c.cell i
      have co := fun i => koc.cell i
      have fo := fun i => koc.free i
      clear hb2 hen2
      go_wp2_with fail
      have hcc := fun i => (koc.set_ 0 (.slice q1 L.length x1)).cell i
      refine bodyPost_ret (v := .tuple #[.agg #[.slice q1 L.length x1], .int .i64 x, v2, .int .i64 y]) (by simp [results, Try.results21, go_sem, hcc]) rfl ?_
      rw [HE.out, HF.out, HR1.out, HR2.out]
      exact ⟨q1, x1, v2, rfl, hf1, hf2, hbf⟩
/-- A text as an op means it. -/
def smT (raw : Bool) (m : Nat) (x : ByteArray) : ByteArray := match raw with | true => shN x (70 * m) | false => shN x m
theorem smT_size (raw : Bool) (m : Nat) (x : ByteArray) : (smT raw m x).size ≤ 70 * m := by
  cases raw
  · have := shN_size x m
    show (shN x m).size ≤ _
    omega
  · exact shN_size x (70 * m)
theorem and15 (x : Int) : ∃ a : Nat, a ≤ 15 ∧ bits .and .u64 x 15 = (a : Int) := by
  have e2 : (BitVec.ofInt 64 15).toNat = 15 := by decide
  have h : (BitVec.ofInt 64 x &&& BitVec.ofInt 64 15).toNat ≤ 15 := by
    rw [BitVec.toNat_and, e2]
    exact Nat.and_le_right
  have e : bits .and .u64 x 15 = IntKind.u64.wrap (((BitVec.ofInt 64 x &&& BitVec.ofInt 64 15).toNat : Nat) : Int) := rfl
  refine ⟨(BitVec.ofInt 64 x &&& BitVec.ofInt 64 15).toNat, h, ?_⟩
  rw [e, IntKind.wrap_u64]
  omega
set_option maxHeartbeats 4000000 in
set_option maxRecDepth 100000 in
theorem small11_rs (kd : Int) (f t d : ByteArray) (n : Nat) (m : Nat) (hm : bits .and .u64 (limb n 0) 15 = (m : Int)) (w : World) : Calls Try.prog 13 #[.agg #[.int .i64 kd, .string f, .string t, .string d, .int .u64 (limb n 0), .int .u64 (limb n 1), .int .u64 (limb n 2), .int .u64 (limb n 3), .bool true, .bool true]] w fun e w' => e = .returned (.agg #[.int .i64 kd, .string (shN f 70), .string (shN t 70), .string (shN d 210), .int .u64 (m : Int), .int .u64 0, .int .u64 0, .int .u64 0, .bool true, .bool true]) ∧ Below w.heap.size w w' := by
  go_enter Try.func13, Try.ntmps13
  go_wp2_with (go_at_call 14; first
    | (have := fl2; refine (short11_any d 210 _).mono ?_; rintro e w' ⟨rfl, rfl⟩)
    | (have := fl1; refine (short11_any t 70 _).mono ?_; rintro e w' ⟨rfl, rfl⟩; have fl2 := True.intro)
    | (refine (short11_any f 70 _).mono ?_; rintro e w' ⟨rfl, rfl⟩; have fl1 := True.intro))
  refine bodyPost_ret (v := .agg #[.int .i64 kd, .string (shN f 70), .string (shN t 70), .string (shN d 210), .int .u64 (m : Int), .int .u64 0, .int .u64 0, .int .u64 0, .bool true, .bool true]) (by simp [results, Try.results13, go_sem]) rfl ⟨rfl, BW_alloc (BW_alloc (BW_refl w) _) _⟩
set_option maxHeartbeats 4000000 in
set_option maxRecDepth 100000 in
theorem small11_rn (kd : Int) (f t d : ByteArray) (n : Nat) (w : World) : Calls Try.prog 13 #[.agg #[.int .i64 kd, .string f, .string t, .string d, .int .u64 (limb n 0), .int .u64 (limb n 1), .int .u64 (limb n 2), .int .u64 (limb n 3), .bool true, .bool false]] w fun e w' => e = .returned (.agg #[.int .i64 kd, .string (shN f 70), .string (shN t 70), .string (shN d 210), .int .u64 (limb n 0), .int .u64 (limb n 1), .int .u64 (limb n 2), .int .u64 (limb n 3), .bool true, .bool false]) ∧ Below w.heap.size w w' := by
  go_enter Try.func13, Try.ntmps13
  go_wp2_with (go_at_call 14; first
    | (have := fl2; refine (short11_any d 210 _).mono ?_; rintro e w' ⟨rfl, rfl⟩)
    | (have := fl1; refine (short11_any t 70 _).mono ?_; rintro e w' ⟨rfl, rfl⟩; have fl2 := True.intro)
    | (refine (short11_any f 70 _).mono ?_; rintro e w' ⟨rfl, rfl⟩; have fl1 := True.intro))
  refine bodyPost_ret (v := .agg #[.int .i64 kd, .string (shN f 70), .string (shN t 70), .string (shN d 210), .int .u64 (limb n 0), .int .u64 (limb n 1), .int .u64 (limb n 2), .int .u64 (limb n 3), .bool true, .bool false]) (by simp [results, Try.results13, go_sem]) rfl ⟨rfl, BW_alloc (BW_alloc (BW_refl w) _) _⟩
set_option maxHeartbeats 4000000 in
set_option maxRecDepth 100000 in
theorem small11_ps (kd : Int) (f t d : ByteArray) (n : Nat) (m : Nat) (hm : bits .and .u64 (limb n 0) 15 = (m : Int)) (w : World) : Calls Try.prog 13 #[.agg #[.int .i64 kd, .string f, .string t, .string d, .int .u64 (limb n 0), .int .u64 (limb n 1), .int .u64 (limb n 2), .int .u64 (limb n 3), .bool false, .bool true]] w fun e w' => e = .returned (.agg #[.int .i64 kd, .string (shN f 1), .string (shN t 1), .string (shN d 3), .int .u64 (m : Int), .int .u64 0, .int .u64 0, .int .u64 0, .bool false, .bool true]) ∧ Below w.heap.size w w' := by
  go_enter Try.func13, Try.ntmps13
  go_wp2_with (go_at_call 14; first
    | (have := fl2; refine (short11_any d 3 _).mono ?_; rintro e w' ⟨rfl, rfl⟩)
    | (have := fl1; refine (short11_any t 1 _).mono ?_; rintro e w' ⟨rfl, rfl⟩; have fl2 := True.intro)
    | (refine (short11_any f 1 _).mono ?_; rintro e w' ⟨rfl, rfl⟩; have fl1 := True.intro))
  refine bodyPost_ret (v := .agg #[.int .i64 kd, .string (shN f 1), .string (shN t 1), .string (shN d 3), .int .u64 (m : Int), .int .u64 0, .int .u64 0, .int .u64 0, .bool false, .bool true]) (by simp [results, Try.results13, go_sem]) rfl ⟨rfl, BW_alloc (BW_alloc (BW_refl w) _) _⟩
set_option maxHeartbeats 4000000 in
set_option maxRecDepth 100000 in
theorem small11_pn (kd : Int) (f t d : ByteArray) (n : Nat) (w : World) : Calls Try.prog 13 #[.agg #[.int .i64 kd, .string f, .string t, .string d, .int .u64 (limb n 0), .int .u64 (limb n 1), .int .u64 (limb n 2), .int .u64 (limb n 3), .bool false, .bool false]] w fun e w' => e = .returned (.agg #[.int .i64 kd, .string (shN f 1), .string (shN t 1), .string (shN d 3), .int .u64 (limb n 0), .int .u64 (limb n 1), .int .u64 (limb n 2), .int .u64 (limb n 3), .bool false, .bool false]) ∧ Below w.heap.size w w' := by
  go_enter Try.func13, Try.ntmps13
  go_wp2_with (go_at_call 14; first
    | (have := fl2; refine (short11_any d 3 _).mono ?_; rintro e w' ⟨rfl, rfl⟩)
    | (have := fl1; refine (short11_any t 1 _).mono ?_; rintro e w' ⟨rfl, rfl⟩; have fl2 := True.intro)
    | (refine (short11_any f 1 _).mono ?_; rintro e w' ⟨rfl, rfl⟩; have fl1 := True.intro))
  refine bodyPost_ret (v := .agg #[.int .i64 kd, .string (shN f 1), .string (shN t 1), .string (shN d 3), .int .u64 (limb n 0), .int .u64 (limb n 1), .int .u64 (limb n 2), .int .u64 (limb n 3), .bool false, .bool false]) (by simp [results, Try.results13, go_sem]) rfl ⟨rfl, BW_alloc (BW_alloc (BW_refl w) _) _⟩
theorem small11_any (kd : Int) (f t d : ByteArray) (n : Nat) (raw sm : Bool) (hn : W256 n) : ∃ m, W256 m ∧ ∀ w, Calls Try.prog 13 #[.agg #[.int .i64 kd, .string f, .string t, .string d, .int .u64 (limb n 0), .int .u64 (limb n 1), .int .u64 (limb n 2), .int .u64 (limb n 3), .bool raw, .bool sm]] w fun e w' => e = .returned (.agg #[.int .i64 kd, .string (smT raw 1 f), .string (smT raw 1 t), .string (smT raw 3 d), .int .u64 (limb m 0), .int .u64 (limb m 1), .int .u64 (limb m 2), .int .u64 (limb m 3), .bool raw, .bool sm]) ∧ Below w.heap.size w w' := by
  cases sm
  · refine ⟨n, hn, fun w => ?_⟩
    cases raw
    · exact small11_pn kd f t d n w
    · exact small11_rn kd f t d n w
  · obtain ⟨m, hm, e⟩ := and15 (limb n 0)
    have h := limb_small (n := m) (by omega)
    refine ⟨m, W256.small (by omega), fun w => ?_⟩
    rw [h.1, h.2.1, h.2.2.1, h.2.2.2]
    cases raw
    · exact small11_ps kd f t d n m e w
    · exact small11_rs kd f t d n m e w
end Go.Proofs.Ytiaflghhfcnjlaa

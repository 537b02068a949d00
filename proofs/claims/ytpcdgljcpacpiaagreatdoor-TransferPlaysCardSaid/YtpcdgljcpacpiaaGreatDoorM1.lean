/- Pa, Pb, Pc, Pd, Pe in one text. -/
import Derived.Test.YtpcdgljcpacpiaaGreatDoorMT
import Derived.Test.YtpcdgljcpacpiaaGreatDoorMH
import Derived.Lib.ConvBytes
namespace Go.Proofs.YtpcdgljcpacpiaaGreatDoor
open Go.RowKit
attribute [local go_sem ↓] Go.wp_at_zero Go.wp_at_succ
def hd4 (c n : Nat) : List Nat := [c, n / 65536 % 256, n / 256 % 256, n % 256]
/-- A body: its letter, its length in three bytes, the text. -/
def tlvT (c : Nat) (l : List Nat) : List Nat := hd4 c l.length ++ l
theorem u8L_bys {l : List Nat} (h : ∀ x ∈ l, x < 256) : bysN ⟨(l.map UInt8.ofNat).toArray⟩ = l := by
  unfold bysN
  simp only [List.map_map]
  conv => rhs; rw [← List.map_id l]
  refine List.map_congr_left fun x hx => ?_
  show (UInt8.ofNat x).toNat = x
  rw [UInt8.toNat_ofNat_of_lt' (by show x < 256; exact h x hx)]
theorem conv_row (w : World) (g cap : Nat) (l : List Nat) (h : ∀ x ∈ l, x < 256) (hc : ∀ (j x : Nat), l[j]? = some x → w.cell? ⟨g, j, none⟩ = some (.int .u8 (x : Int))) :
    (convert 56 9 (.slice (some ⟨g, 0, none⟩) l.length cap)).run Tryz.prog w = .ok (.string ⟨(l.map UInt8.ofNat).toArray⟩) w := by
  have := run_convert_bytes_back (P := Tryz.prog) w 56 9 5 ⟨g, 0, none⟩ cap (l.map UInt8.ofNat) Tryz.underlying56 Tryz.underlying5 Tryz.underlying9 (fun j hj => by
    have e1 : (⟨g, 0, none⟩ : Addr).add j = ⟨g, j, none⟩ := by unfold Addr.add; split <;> simp_all
    rw [List.length_map] at hj
    have hx := h l[j] (List.getElem_mem _)
    rw [e1, hc j _ (List.getElem?_eq_getElem hj), List.getElem_map, UInt8.toNat_ofNat_of_lt' (by show l[j] < 256; exact hx)])
  rwa [List.length_map] at this
theorem heads_any (c n : Nat) (w : World) : Calls Tryz.prog 113 #[.int .u8 (c : Int), .int .i64 (n : Int)] w fun e w' =>
    e = .returned (.agg #[.int .u8 (c : Int), .int .u8 ((n / 65536 % 256 : Nat) : Int), .int .u8 ((n / 256 % 256 : Nat) : Int), .int .u8 ((n % 256 : Nat) : Int)]) ∧ Below w.heap.size w w' := by
  have e1 : (n : Int) / 65536 % 256 = ((n / 65536 % 256 : Nat) : Int) := by omega
  have e2 : (n : Int) / 256 % 256 = ((n / 256 % 256 : Nat) : Int) := by omega
  have e3 : (n : Int) % 256 = ((n % 256 : Nat) : Int) := by omega
  generalize n / 65536 % 256 = x1 at *
  generalize n / 256 % 256 = x2 at *
  generalize n % 256 = x3 at *
  go_enter Tryz.func113, Tryz.ntmps113
  go_wp2
  refine bodyPost_ret (v := .agg #[.int .u8 (c : Int), .int .u8 (x1 : Int), .int .u8 (x2 : Int), .int .u8 (x3 : Int)]) (by simp [results, Tryz.results113, go_sem]) rfl ⟨rfl, BW_alloc (BW_refl w) _⟩
set_option maxRecDepth 100000 in
theorem ttext_any (c : Nat) (s : ByteArray) (w : World) (hc : c < 256) (hs : s.size ≤ 1000000) :
    Calls Tryz.prog 96 #[.int .u8 (c : Int), .string s] w fun e w' => ∃ t, e = .returned (.string t) ∧ bysN t = tlvT c (bysN s) ∧ Below w.heap.size w w' := by
  have hmin : min (s.size : Int) 16777215 = (s.size : Int) := by omega
  have hex : s.extract 0 s.size = s := bysN_inj (by rw [bysN_extract, List.drop_zero, List.take_of_length_le (by rw [bysN_len]; exact Nat.le_refl _)])
  have htl : Hid (tlvT c (bysN s) = [c, s.size / 65536 % 256, s.size / 256 % 256, s.size % 256] ++ bysN s) := Lib.hid (by unfold tlvT hd4; rw [bysN_len])
  have hlt : ∀ x ∈ [c, s.size / 65536 % 256, s.size / 256 % 256, s.size % 256], x < 256 := by
    intro x hx
    simp only [List.mem_cons, List.not_mem_nil, or_false] at hx
    omega
  have Hlt := Lib.hid hlt
  go_enter Tryz.func96, Tryz.ntmps96
  go_wp2_with fail
  refine (heads_any c s.size _).mono ?_
  rintro e w1 ⟨rfl, hb1⟩
  generalize s.size / 65536 % 256 = x1 at *
  generalize s.size / 256 % 256 = x2 at *
  generalize s.size % 256 = x3 at *
  have k4 := blk1 w1 124 #[.int .u8 (c : Int), .int .u8 (x1 : Int), .int .u8 (x2 : Int), .int .u8 (x3 : Int)]
  have hcv := conv_row _ w1.heap.size 4 [c, x1, x2, x3] Hlt.out (fun j x hx => by
    rw [k4.cell j]
    match j with
    | 0 => cases hx; rfl
    | 1 => cases hx; rfl
    | 2 => cases hx; rfl
    | 3 => cases hx; rfl
    | j + 4 => cases hx)
  obtain ⟨h4, hh4⟩ : ∃ h4 : ByteArray, (⟨([c, x1, x2, x3].map UInt8.ofNat).toArray⟩ : ByteArray) = h4 := ⟨_, rfl⟩
  have hbh : bysN h4 = [c, x1, x2, x3] := by rw [← hh4]; exact u8L_bys Hlt.out
  have hz4 : h4.size = 4 := by rw [← bysN_len, hbh]; rfl
  rw [hh4] at hcv
  have hcv' : (convert 56 9 (.slice (some ⟨w1.heap.size, 0, none⟩) 4 4)).run Tryz.prog _ = .ok (.string h4) _ := hcv
  obtain ⟨t, ht, hadd⟩ := cat_big h4 s (by omega)
  have HT : Hid (bysN t = tlvT c (bysN s)) := Lib.hid (by rw [ht, hbh, htl.out])
  clear hcv hh4 hbh ht k4 hlt
  go_wp2
  go_ret
  exact ⟨_, rfl, HT.out, BW_alloc hb1 _⟩
end Go.Proofs.YtpcdgljcpacpiaaGreatDoor
namespace Go.Proofs.YtpcdgljcpacpiaaGreatDoor
open Go.RowKit
attribute [local go_sem ↓] Go.wp_at_zero Go.wp_at_succ
attribute [local go_sem] conv_f1
end Go.Proofs.YtpcdgljcpacpiaaGreatDoor
namespace Go.Proofs.YtpcdgljcpacpiaaGreatDoor
open Go.RowKit
attribute [local go_sem ↓] Go.wp_at_zero Go.wp_at_succ
attribute [local go_sem] conv_f1
set_option maxHeartbeats 4000000 in
set_option maxRecDepth 100000 in
theorem r1text_any (c : Nat) (s : ByteArray) (w : World) (hc : c < 256) (hs : s.size ≤ 1000000) :
    Calls Tryz.prog 79 #[.int .u8 (c : Int), .string s] w fun e w' => ∃ t, e = .returned (.string t) ∧ bysN t = tlvT c (bysN s) ∧ Below w.heap.size w w' := by
  have hmin : (s.size : Int) ≤ 16777215 := by omega
  have htl : Hid (tlvT c (bysN s) = [c, s.size / 65536 % 256, s.size / 256 % 256, s.size % 256] ++ bysN s) := Lib.hid (by unfold tlvT hd4; rw [bysN_len])
  have hlt : ∀ x ∈ [c, s.size / 65536 % 256, s.size / 256 % 256, s.size % 256], x < 256 := by
    intro x hx
    simp only [List.mem_cons, List.not_mem_nil, or_false] at hx
    omega
  have Hlt := Lib.hid hlt
  have e1 : (s.size : Int) / 65536 % 256 = ((s.size / 65536 % 256 : Nat) : Int) := by omega
  have e6 : (s.size : Int) / 65536 = ((s.size / 65536 % 256 : Nat) : Int) := by omega
  have e2 : (s.size : Int) / 256 % 256 = ((s.size / 256 % 256 : Nat) : Int) := by omega
  have e3 : (s.size : Int) % 256 = ((s.size % 256 : Nat) : Int) := by omega
  have e4 : (s.size : Int).tdiv 65536 % 256 = ((s.size / 65536 % 256 : Nat) : Int) := by rw [Int.tdiv_eq_ediv_of_nonneg (by omega)]; exact e1
  have e5 : (s.size : Int).tdiv 256 % 256 = ((s.size / 256 % 256 : Nat) : Int) := by rw [Int.tdiv_eq_ediv_of_nonneg (by omega)]; exact e2
  generalize s.size / 65536 % 256 = x1 at *
  generalize s.size / 256 % 256 = x2 at *
  generalize s.size % 256 = x3 at *
  have k4 := blk1 w 5 #[.int .u8 (c : Int), .int .u8 (x1 : Int), .int .u8 (x2 : Int), .int .u8 (x3 : Int)]
  have hcv := conv_row _ w.heap.size 4 [c, x1, x2, x3] Hlt.out (fun j x hx => by
    rw [k4.cell j]
    match j with
    | 0 => cases hx; rfl
    | 1 => cases hx; rfl
    | 2 => cases hx; rfl
    | 3 => cases hx; rfl
    | j + 4 => cases hx)
  obtain ⟨h4, hh4⟩ : ∃ h4 : ByteArray, (⟨([c, x1, x2, x3].map UInt8.ofNat).toArray⟩ : ByteArray) = h4 := ⟨_, rfl⟩
  have hbh : bysN h4 = [c, x1, x2, x3] := by rw [← hh4]; exact u8L_bys Hlt.out
  have hz4 : h4.size = 4 := by rw [← bysN_len, hbh]; rfl
  rw [hh4] at hcv
  have hcv' : (convert 56 9 (.slice (some ⟨w.heap.size, 0, none⟩) 4 4)).run Tryz.prog _ = .ok (.string h4) _ := hcv
  obtain ⟨t, ht, hadd⟩ := cat_big h4 s (by omega)
  have HT : Hid (bysN t = tlvT c (bysN s)) := Lib.hid (by rw [ht, hbh, htl.out])
  clear hcv hh4 hbh ht k4 hlt
  go_enter Tryz.func79, Tryz.ntmps79
  go_wp2
  go_ret
  exact ⟨_, rfl, HT.out, BW_alloc (BW_refl w) _⟩
end Go.Proofs.YtpcdgljcpacpiaaGreatDoor
namespace Go.Proofs.YtpcdgljcpacpiaaGreatDoor
open Go.RowKit
attribute [local go_sem ↓] Go.wp_at_zero Go.wp_at_succ
end Go.Proofs.YtpcdgljcpacpiaaGreatDoor
namespace Go.Proofs.YtpcdgljcpacpiaaGreatDoor
open Go.RowKit
attribute [local go_sem ↓] Go.wp_at_zero Go.wp_at_succ
end Go.Proofs.YtpcdgljcpacpiaaGreatDoor

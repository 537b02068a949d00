/- The document's bank: Balance, Supply, set, two. -/
import Derived.Test.YtpcdgljcpacpiaaGreatDoorBc
namespace Go.Proofs.YtpcdgljcpacpiaaGreatDoor
open Go.RowKit
attribute [local go_sem ↓] Go.wp_at_zero Go.wp_at_succ
set_option maxHeartbeats 1000000 in
theorem r11bal_any (v : Value) (E : List Ent) (a d : ByteArray) (w : World) (hv : Ents w v E) (hl : E.length ≤ 2000) (ha : a.size ≤ 1000000) (hd : d.size ≤ 1000000) : Calls Tryz.prog 24 #[v, .string a, .string d] w fun e w' => e = .returned (wv (ng E (keyB a d))) ∧ Below w.heap.size w w' := by
  have ko := blk1 w 31 #[.int .u64 0, .int .u64 0, .int .u64 0, .int .u64 0]
  have hb0 := BW_alloc (BW_refl w) (.cells #[.int .u64 0, .int .u64 0, .int .u64 0, .int .u64 0] 31)
  have Hv := Lib.hid hv
  clear hv
  go_enter Tryz.func24, Tryz.ntmps24
  go_wp2_with fail
  refine (r11key_any a d _ ha hd).mono ?_
  rintro e w1 ⟨rfl, hb1⟩
  replace hb0 := BW_on hb0 hb1
  replace ko := ko.on hb1
  clear hb1
  go_wp2_with fail
  refine (r11get_any v E (keyB a d) _ (Hv.out.on hb0) hl).mono ?_
  rintro e w2 ⟨rfl, hb2⟩
  replace hb0 := BW_on hb0 hb2
  replace ko := ko.on hb2
  have co := fun i => ko.cell i
  have fo := fun i => ko.free i
  clear hb2
  go_wp2_with fail
  have hcc := fun i => (ko.store4 (.int .u64 (limb (ng E (keyB a d)) 0)) (.int .u64 (limb (ng E (keyB a d)) 1)) (.int .u64 (limb (ng E (keyB a d)) 2)) (.int .u64 (limb (ng E (keyB a d)) 3))).cell i
  refine bodyPost_ret (v := wv (ng E (keyB a d))) (by simp [results, Tryz.results24, go_sem, hcc]) rfl ⟨rfl, below_store4 hb0 (Nat.le_refl _) _ _ _ _⟩
set_option maxHeartbeats 1000000 in
theorem r11sup_any (v : Value) (E : List Ent) (d : ByteArray) (w : World) (hv : Ents w v E) (hl : E.length ≤ 2000) (hd : d.size ≤ 1000000) : Calls Tryz.prog 25 #[v, .string d] w fun e w' => e = .returned (wv (ng E (totB d))) ∧ Below w.heap.size w w' := by
  have ko := blk1 w 31 #[.int .u64 0, .int .u64 0, .int .u64 0, .int .u64 0]
  have hb0 := BW_alloc (BW_refl w) (.cells #[.int .u64 0, .int .u64 0, .int .u64 0, .int .u64 0] 31)
  have Hv := Lib.hid hv
  clear hv
  go_enter Tryz.func25, Tryz.ntmps25
  go_wp2_with fail
  refine (r11tot_any d _ hd).mono ?_
  rintro e w1 ⟨rfl, hb1⟩
  replace hb0 := BW_on hb0 hb1
  replace ko := ko.on hb1
  clear hb1
  go_wp2_with fail
  refine (r11get_any v E (totB d) _ (Hv.out.on hb0) hl).mono ?_
  rintro e w2 ⟨rfl, hb2⟩
  replace hb0 := BW_on hb0 hb2
  replace ko := ko.on hb2
  have co := fun i => ko.cell i
  have fo := fun i => ko.free i
  clear hb2
  go_wp2_with fail
  have hcc := fun i => (ko.store4 (.int .u64 (limb (ng E (totB d)) 0)) (.int .u64 (limb (ng E (totB d)) 1)) (.int .u64 (limb (ng E (totB d)) 2)) (.int .u64 (limb (ng E (totB d)) 3))).cell i
  refine bodyPost_ret (v := wv (ng E (totB d))) (by simp [results, Tryz.results25, go_sem, hcc]) rfl ⟨rfl, below_store4 hb0 (Nat.le_refl _) _ _ _ _⟩
theorem rput_okd (v : Value) (E : List Ent) (k x : ByteArray) (w : World) (hv : Ents w v E) (hs : Srt E) (hl : E.length ≤ 1900) (hk : k.size ≤ 400) (hx : x.size = 32) :
    Calls Tryz.prog 103 #[v, .string k, .string x] w fun e w' => ∃ v', e = .returned (.tuple #[v', .int .i64 0]) ∧ Ents w' v' (putL E k x) ∧ Below w.heap.size w w' := by
  refine (rput_any v E k x w hv hs (by omega)).mono ?_
  rintro e w' ⟨v', c, rfl, h, hb⟩
  rcases h with ⟨_, rfl, hen⟩ | ⟨hno, _⟩
  · exact ⟨v', rfl, hen, hb⟩
  · exact absurd ⟨hk, by omega, .inr (by omega)⟩ hno
theorem rdrop_okd (v : Value) (E : List Ent) (k : ByteArray) (w : World) (hv : Ents w v E) (hs : Srt E) (hl : E.length ≤ 1900) :
    Calls Tryz.prog 102 #[v, .string k] w fun e w' => ∃ v' b, e = .returned (.tuple #[v', .bool b]) ∧ Ents w' v' (dropL E k) ∧ Below w.heap.size w w' := by
  refine (rdrop_any v E k w hv (by omega)).mono ?_
  rintro e w' ⟨v', rfl, hown, hb⟩
  rw [filter_drop hs] at hown
  exact ⟨v', _, rfl, own_ents hown, hb⟩
set_option maxHeartbeats 1000000 in
theorem rset_any (v : Value) (E : List Ent) (k : ByteArray) (n : Nat) (w : World) (hv : Ents w v E) (hs : Srt E) (hl : E.length ≤ 1900) (hk : k.size ≤ 400) (hn : W256 n) :
    Calls Tryz.prog 80 #[v, .string k, wv n] w fun e w' => ∃ v', e = .returned (.tuple #[v', .int .i64 0]) ∧ Ents w' v' (setL E k n) ∧ Below w.heap.size w w' := by
  have heq := eqW0 n hn
  have kn := (blk1 w 31 #[.int .u64 (limb n 0), .int .u64 (limb n 1), .int .u64 (limb n 2), .int .u64 (limb n 3)]).alloc (.cells #[.int .u64 0, .int .u64 0, .int .u64 0, .int .u64 0] 31)
  have hb0 := BW_alloc (BW_alloc (BW_refl w) (.cells #[.int .u64 (limb n 0), .int .u64 (limb n 1), .int .u64 (limb n 2), .int .u64 (limb n 3)] 31)) (.cells #[.int .u64 0, .int .u64 0, .int .u64 0, .int .u64 0] 31)
  have hv0 := Lib.hid (hv.on hb0)
  have cn := fun i => kn.cell i
  have Hs := Lib.hid hs
  clear hv hs kn
  by_cases hz : n = 0
  · have e1 : Hid (setL E k n = dropL E k) := Lib.hid (by rw [hz, set_zero])
    rw [decide_eq_true hz] at heq
    clear hz
    go_enter Tryz.func80, Tryz.ntmps80
    go_wp2_with fail
    refine (rdrop_okd v E k _ hv0.out Hs.out hl).mono ?_
    rintro e w1 ⟨v', b, rfl, hen, hb1⟩
    go_wp2_with fail
    go_ret2
    exact ⟨v', rfl, by rw [e1.out]; exact hen, BW_on hb0 hb1⟩
  · have e1 : Hid (setL E k n = putL E k (wbB n)) := Lib.hid (set_pos hz)
    rw [decide_eq_false hz] at heq
    clear hz
    go_enter Tryz.func80, Tryz.ntmps80
    go_wp2_with fail
    refine (rbytes_any n _).mono ?_
    rintro e w1 ⟨rfl, hb1⟩
    go_wp2_with fail
    refine (rput_okd v E k (wbB n) _ (hv0.out.on hb1) Hs.out hl hk (wbB_size n)).mono ?_
    rintro e w2 ⟨v', rfl, hen, hb2⟩
    go_wp2_with fail
    go_ret2
    exact ⟨v', rfl, by rw [e1.out]; exact hen, BW_on (BW_on hb0 hb1) hb2⟩
set_option maxHeartbeats 1000000 in
theorem rtwo_any (v : Value) (E : List Ent) (k1 k2 : ByteArray) (n1 n2 : Nat) (w : World) (hv : Ents w v E) (hs : Srt E) (hl : E.length ≤ 1800) (hk1 : k1.size ≤ 400) (hk2 : k2.size ≤ 400) (hn1 : W256 n1) (hn2 : W256 n2) :
    Calls Tryz.prog 61 #[v, .string k1, wv n1, .string k2, wv n2] w fun e w' => ∃ v', e = .returned (.tuple #[v', .int .i64 0]) ∧ Ents w' v' (setL (setL E k1 n1) k2 n2) ∧ Below w.heap.size w w' := by
  have q1 := (blk1 w 31 #[.int .u64 (limb n1 0), .int .u64 (limb n1 1), .int .u64 (limb n1 2), .int .u64 (limb n1 3)]).alloc (.cells #[.int .u64 (limb n2 0), .int .u64 (limb n2 1), .int .u64 (limb n2 2), .int .u64 (limb n2 3)] 31)
  have q2 := blk2 w (.cells #[.int .u64 (limb n1 0), .int .u64 (limb n1 1), .int .u64 (limb n1 2), .int .u64 (limb n1 3)] 31) 31 #[.int .u64 (limb n2 0), .int .u64 (limb n2 1), .int .u64 (limb n2 2), .int .u64 (limb n2 3)]
  have hb0 := BW_alloc (BW_alloc (BW_refl w) (.cells #[.int .u64 (limb n1 0), .int .u64 (limb n1 1), .int .u64 (limb n1 2), .int .u64 (limb n1 3)] 31)) (.cells #[.int .u64 (limb n2 0), .int .u64 (limb n2 1), .int .u64 (limb n2 2), .int .u64 (limb n2 3)] 31)
  have hv0 := Lib.hid (hv.on hb0)
  have c1 := fun i => q1.cell i
  have c2 := fun i => q2.cell i
  have Hs := Lib.hid hs
  have hl2 := set_len hs k1 n1
  clear hv hs
  go_enter Tryz.func61, Tryz.ntmps61
  go_wp2_with fail
  refine (rset_any v E k1 n1 _ hv0.out Hs.out (by omega) hk1 hn1).mono ?_
  rintro e w1 ⟨v1, rfl, hen1, hb1⟩
  clear c1 c2
  have c2 := fun i => (q2.on hb1).cell i
  replace hb0 := BW_on hb0 hb1
  have Hen1 := Lib.hid hen1
  clear hb1 hen1
  go_wp2_with fail
  refine (rset_any v1 (setL E k1 n1) k2 n2 _ Hen1.out (set_srt Hs.out _ _) (by omega) hk2 hn2).mono ?_
  rintro e w2 ⟨v2, rfl, hen2, hb2⟩
  replace hb0 := BW_on hb0 hb2
  have Hen2 := Lib.hid hen2
  clear hb2 hen2 c2
  go_wp2_with fail
  go_ret2
  exact ⟨v2, rfl, Hen2.out, hb0⟩
theorem rsub_any (n m : Nat) (hn : n < 256 ^ 32) (hm : m < 256 ^ 32) (w : World) :
    Calls Tryz.prog 23 #[wv n, wv m] w fun e w' => e = .returned (.tuple #[wv (n - m), .bool (decide (m ≤ n))]) ∧ Below w.heap.size w w' := by
  rcases Nat.lt_or_ge n m with h | h
  · rw [decide_eq_false (by omega), show n - m = 0 by omega]
    refine (rsub_no n m hn hm h w).mono ?_
    rintro e w' ⟨rfl, hb⟩
    exact ⟨by simp [limb], hb⟩
  · rw [decide_eq_true h]
    exact rsub_yes n m hn hm h w
end Go.Proofs.YtpcdgljcpacpiaaGreatDoor

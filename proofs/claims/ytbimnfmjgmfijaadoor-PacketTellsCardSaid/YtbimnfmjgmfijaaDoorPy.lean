/- The law PacketTells's walk. -/
import Derived.Test.YtbimnfmjgmfijaaDoorMP
import Derived.Test.YtbimnfmjgmfijaaDoorPx
namespace Go.Proofs.YtbimnfmjgmfijaaDoor
open Go.RowKit
attribute [local go_sem ↓] Go.wp_at_zero Go.wp_at_succ
/-- The boxes of a packet and of two numbers, and the hash's tables. -/
structure B3 (w0 : World) (g1 g2 : Nat) (c1 c2 : Array Value) (W : World) : Prop where
  k1 : Blk W g1 30 c1
  k2 : Blk W g2 40 c2
  hb : Below w0.heap.size w0 W
  hT : Tabs W
theorem B3.on {w0 W W' : World} {g1 g2 : Nat} {c1 c2 : Array Value} (h : B3 w0 g1 g2 c1 c2 W) (hb : Below W.heap.size W W') : B3 w0 g1 g2 c1 c2 W' := ⟨h.k1.on hb, h.k2.on hb, BW_on h.hb hb, h.hT.on hb⟩
theorem B3.drew {w0 W : World} {g1 g2 : Nat} {c1 c2 : Array Value} (h : B3 w0 g1 g2 c1 c2 W) : B3 w0 g1 g2 c1 c2 W.drew := h.on (Below.refl _ _).drew
set_option maxHeartbeats 8000000 in
set_option maxRecDepth 100000 in
theorem l13tells_any (q h t y z : Int) (s0 k0 d0 f0 g0 : ByteArray) (n : Nat) (w : World) (hn : W256 n) (hq : q ≤ 9223372036854775807) (hh : h ≤ 9223372036854775807) (ht : t ≤ 9223372036854775807) (hT : Hid (Tabs w)) :
    Calls Tryd.prog 5 #[.agg #[.int .i64 q, .string s0, .string k0, .string d0, .int .u64 (limb n 0), .int .u64 (limb n 1), .int .u64 (limb n 2), .int .u64 (limb n 3), .string f0, .string g0, .int .i64 h, .int .i64 t], .agg #[.int .i64 y, .int .i64 z]] w fun e w' => e = .returned (.bool true) ∧ Below w.heap.size w w' := by
  have xs := shN_size s0 80
  have xk := shN_size k0 80
  have xd := shN_size d0 210
  have xf := shN_size f0 80
  have xg := shN_size g0 80
  have hsm := Lib.hid (fun w => small13_any q h t (limb n 0) (limb n 1) (limb n 2) (limb n 3) s0 k0 d0 f0 g0 w)
  have Hn := Lib.hid hn
  have k1 := (blk1 w 30 #[.int .i64 q, .string s0, .string k0, .string d0, .int .u64 (limb n 0), .int .u64 (limb n 1), .int .u64 (limb n 2), .int .u64 (limb n 3), .string f0, .string g0, .int .i64 h, .int .i64 t]).alloc (.cells #[.int .i64 y, .int .i64 z] 40)
  have k2 := blk2 w (.cells #[.int .i64 q, .string s0, .string k0, .string d0, .int .u64 (limb n 0), .int .u64 (limb n 1), .int .u64 (limb n 2), .int .u64 (limb n 3), .string f0, .string g0, .int .i64 h, .int .i64 t] 30) 40 #[.int .i64 y, .int .i64 z]
  have bb := BW_alloc (BW_alloc (BW_refl w) (.cells #[.int .i64 q, .string s0, .string k0, .string d0, .int .u64 (limb n 0), .int .u64 (limb n 1), .int .u64 (limb n 2), .int .u64 (limb n 3), .string f0, .string g0, .int .i64 h, .int .i64 t] 30)) (.cells #[.int .i64 y, .int .i64 z] 40)
  have hne2 : w.heap.size + 1 ≠ w.heap.size := by omega
  clear hn
  go_enter Tryd.func5, Tryd.ntmps5
  go_wp2_with (first
    | (go_at_call 7; refine (awake13 _).mono ?_; rintro e w1 ⟨rfl, hb1⟩; replace k1 := k1.on hb1; replace k2 := k2.on hb1; replace bb := BW_on bb hb1; have co1 := (fun i => k1.cell i))
    | (go_at_call 11; refine (hsm.out _).mono ?_))
  rintro e w2 ⟨rfl, hb2⟩
  generalize shN s0 80 = s at *
  generalize shN k0 80 = k at *
  generalize shN d0 210 = d at *
  generalize shN f0 80 = f at *
  generalize shN g0 80 = g at *
  have j1 := k1.on hb2
  have j2 := k2.on hb2
  have jb := BW_on bb hb2
  have fo2 := fun i => j1.free i
  have co2 := fun i => j1.cell i
  have m1 := j1.store12 (.int .i64 q) (.string s) (.string k) (.string d) (.int .u64 (limb n 0)) (.int .u64 (limb n 1)) (.int .u64 (limb n 2)) (.int .u64 (limb n 3)) (.string f) (.string g) (.int .i64 h) (.int .i64 t)
  have m2 := j2.far12 hne2 (.int .i64 q) (.string s) (.string k) (.string d) (.int .u64 (limb n 0)) (.int .u64 (limb n 1)) (.int .u64 (limb n 2)) (.int .u64 (limb n 3)) (.string f) (.string g) (.int .i64 h) (.int .i64 t)
  have mb := below_store12 jb (Nat.le_refl w.heap.size) (.int .i64 q) (.string s) (.string k) (.string d) (.int .u64 (limb n 0)) (.int .u64 (limb n 1)) (.int .u64 (limb n 2)) (.int .u64 (limb n 3)) (.string f) (.string g) (.int .i64 h) (.int .i64 t)
  clear k1 k2 bb hb2 j2 hsm
  obtain ⟨ok, hok⟩ : ∃ b, okP q h t (bysN s) (bysN k) (bysN d) (bysN f) (bysN g) n = b := ⟨_, rfl⟩
  obtain ⟨op, hop⟩ : ∃ b, okPlain (bysN g) = b := ⟨_, rfl⟩
  obtain ⟨lt, hlt⟩ : ∃ b, lateB h t y z = b := ⟨_, rfl⟩
  obtain ⟨CC, hCC⟩ : ∃ CC, byt (sha (80 :: pkB q h t (bysN s) (bysN k) (bysN d) n (bysN f) (bysN g))) = CC := ⟨_, rfl⟩
  have Hok := Lib.hid hok
  have Hop := Lib.hid hop
  have Hlt := Lib.hid hlt
  have HCC := Lib.hid hCC
  clear hok hop hlt hCC
  go_upto_region 3 with (fail)
  refine wp_region_held_drew (S := B3 w w.heap.size (w.heap.size + 1) #[.int .i64 q, .string s, .string k, .string d, .int .u64 (limb n 0), .int .u64 (limb n 1), .int .u64 (limb n 2), .int .u64 (limb n 3), .string f, .string g, .int .i64 h, .int .i64 t] #[.int .i64 y, .int .i64 z]) (by kernel_rfl) (B3.drew ⟨m1, m2, mb, hT.out.on mb⟩) (fun hH0 => ?_)
  refine wpAnyH_take (i := 0) (v := .bool true) rfl (by kernel_rfl) (by kernel_rfl) (by kernel_rfl) (fun _ _ _ h => h) (yk_move (by kernel_rfl) _ rfl _ (by kernel_rfl)) hH0 ?_
  refine wpAnyH_take (i := 1) (v := .bool true) rfl (by kernel_rfl) (by kernel_rfl) (by kernel_rfl) (fun _ _ _ h => h) (yk_move (by kernel_rfl) _ rfl _ (by kernel_rfl)) hH0 ?_
  refine wpAnyH_take (i := 2) (v := .pointer (some ⟨w.heap.size, 3, none⟩)) rfl (by kernel_rfl) (by kernel_rfl) (by kernel_rfl) (fun _ _ _ h => h) (yk_fa (by kernel_rfl) _ _ _ rfl (.pointer (some ⟨w.heap.size, 0, none⟩)) (by kernel_rfl) _ (fun w' hw' => by go_simp)) hH0 ?_
  refine wpAnyH_take (i := 3) (v := .pointer (some ⟨w.heap.size, 9, none⟩)) rfl (by kernel_rfl) (by kernel_rfl) (by kernel_rfl) (fun _ _ _ h => h) (yk_fa (by kernel_rfl) _ _ _ rfl (.pointer (some ⟨w.heap.size, 3, none⟩)) (by kernel_rfl) _ (fun w' hw' => by go_simp)) hH0 ?_
  refine wpAnyH_take (i := 4) (v := .string g) rfl (by kernel_rfl) (by kernel_rfl) (by kernel_rfl) (fun _ _ _ h => h) (yk_load (by kernel_rfl) _ _ rfl (.pointer (some ⟨w.heap.size, 9, none⟩)) (by kernel_rfl) _ (fun w' hw' => by have c0 := hw'.k1.cell 9; go_simp)) hH0 ?_
  refine wpAnyH_take (i := 6) (v := .pointer (some ⟨w.heap.size, 3, none⟩)) rfl (by kernel_rfl) (by kernel_rfl) (by kernel_rfl) (fun _ _ _ h => h) (yk_fa (by kernel_rfl) _ _ _ rfl (.pointer (some ⟨w.heap.size, 0, none⟩)) (by kernel_rfl) _ (fun w' hw' => by go_simp)) hH0 ?_
  refine wpAnyH_take (i := 7) (v := .pointer (some ⟨w.heap.size, 9, none⟩)) rfl (by kernel_rfl) (by kernel_rfl) (by kernel_rfl) (fun _ _ _ h => h) (yk_fa (by kernel_rfl) _ _ _ rfl (.pointer (some ⟨w.heap.size, 3, none⟩)) (by kernel_rfl) _ (fun w' hw' => by go_simp)) hH0 ?_
  refine wpAnyH_take (i := 8) (v := .string g) rfl (by kernel_rfl) (by kernel_rfl) (by kernel_rfl) (fun _ _ _ h => h) (yk_load (by kernel_rfl) _ _ rfl (.pointer (some ⟨w.heap.size, 9, none⟩)) (by kernel_rfl) _ (fun w' hw' => by have c0 := hw'.k1.cell 9; go_simp)) hH0 ?_
  refine wpAnyH_ready (rs := [5]) (by kernel_rfl) (by simp) ?_
  refine AllReadyH.cons rfl (fun K hK => ?_) AllReadyH.nil
  go_simp
  go_at_call 14
  refine (plain_any g _).mono ?_
  rintro e w5 ⟨rfl, rfl⟩
  rw [Hop.out]
  go_wp2_with fail
  refine hK.out _ _ (hH0) (fun hH1 => ?_)
  clear hK K
  refine wpAnyH_ready (rs := [9]) (by kernel_rfl) (by simp) ?_
  refine AllReadyH.cons rfl (fun K hK => ?_) AllReadyH.nil
  go_simp
  go_at_call 15
  refine (r13plain_any g _ (by omega)).mono ?_
  rintro e w9 ⟨rfl, rfl⟩
  rw [Hop.out]
  go_wp2_with fail
  refine hK.out _ _ (hH1) (fun hH2 => ?_)
  clear hK K
  refine wpAnyH_take (i := 10) (v := .bool true) rfl (by kernel_rfl) (by kernel_rfl) (by kernel_rfl) (fun _ _ _ h => h) (yk_bin (by kernel_rfl) _ _ _ _ _ rfl (.bool op) (.bool op) (by kernel_rfl) (by kernel_rfl) _ (fun w' hw' => by go_simp)) hH2 ?_
  refine wpAnyH_take (i := 11) (v := .bool true) rfl (by kernel_rfl) (by kernel_rfl) (by kernel_rfl) (fun _ _ _ h => h) (yk_pick (by kernel_rfl) _ _ _ rfl true (by kernel_rfl) _ (by kernel_rfl)) hH2 ?_
  refine wpAnyH_take (i := 12) (v := .bool true) rfl (by kernel_rfl) (by kernel_rfl) (by kernel_rfl) (fun _ _ _ h => h) (yk_move (by kernel_rfl) _ rfl _ (by kernel_rfl)) hH2 ?_
  refine wpAnyH_take (i := 13) (v := .agg #[.int .i64 q, .string s, .string k, .string d, .int .u64 (limb n 0), .int .u64 (limb n 1), .int .u64 (limb n 2), .int .u64 (limb n 3), .string f, .string g, .int .i64 h, .int .i64 t]) rfl (by kernel_rfl) (by kernel_rfl) (by kernel_rfl) (fun _ _ _ h => h) (yk_load (by kernel_rfl) _ _ rfl (.pointer (some ⟨w.heap.size, 0, none⟩)) (by kernel_rfl) _ (fun w' hw' => by have c0 := hw'.k1.cell 0; have c1 := hw'.k1.cell 1; have c2 := hw'.k1.cell 2; have c3 := hw'.k1.cell 3; have c4 := hw'.k1.cell 4; have c5 := hw'.k1.cell 5; have c6 := hw'.k1.cell 6; have c7 := hw'.k1.cell 7; have c8 := hw'.k1.cell 8; have c9 := hw'.k1.cell 9; have c10 := hw'.k1.cell 10; have c11 := hw'.k1.cell 11; go_simp)) hH2 ?_
  refine wpAnyH_take (i := 15) (v := .agg #[.int .i64 q, .string s, .string k, .string d, .int .u64 (limb n 0), .int .u64 (limb n 1), .int .u64 (limb n 2), .int .u64 (limb n 3), .string f, .string g, .int .i64 h, .int .i64 t]) rfl (by kernel_rfl) (by kernel_rfl) (by kernel_rfl) (fun _ _ _ h => h) (yk_load (by kernel_rfl) _ _ rfl (.pointer (some ⟨w.heap.size, 0, none⟩)) (by kernel_rfl) _ (fun w' hw' => by have c0 := hw'.k1.cell 0; have c1 := hw'.k1.cell 1; have c2 := hw'.k1.cell 2; have c3 := hw'.k1.cell 3; have c4 := hw'.k1.cell 4; have c5 := hw'.k1.cell 5; have c6 := hw'.k1.cell 6; have c7 := hw'.k1.cell 7; have c8 := hw'.k1.cell 8; have c9 := hw'.k1.cell 9; have c10 := hw'.k1.cell 10; have c11 := hw'.k1.cell 11; go_simp)) hH2 ?_
  refine wpAnyH_ready (rs := [14]) (by kernel_rfl) (by simp) ?_
  refine AllReadyH.cons rfl (fun K hK => ?_) AllReadyH.nil
  go_simp
  go_at_call 13
  refine (check13_any q h t s k d f g n _ (by omega) (by omega) (by omega) (by omega) (by omega) Hn.out).mono ?_
  rintro e w14 ⟨rfl, hd14⟩
  rw [Hok.out]
  go_wp2_with fail
  refine hK.out _ _ (B3.on hH2 hd14) (fun hH3 => ?_)
  clear hK K
  refine wpAnyH_ready (rs := [16]) (by kernel_rfl) (by simp) ?_
  refine AllReadyH.cons rfl (fun K hK => ?_) AllReadyH.nil
  go_simp
  go_at_call 16
  refine (r13check_any q h t s k d f g n _ (by omega) (by omega) (by omega) (by omega) (by omega) Hn.out).mono ?_
  rintro e w16 ⟨rfl, hd16⟩
  rw [Hok.out]
  go_wp2_with fail
  refine hK.out _ _ (B3.on hH3 hd16) (fun hH4 => ?_)
  clear hK K
  refine wpAnyH_take (i := 17) (v := .bool true) rfl (by kernel_rfl) (by kernel_rfl) (by kernel_rfl) (fun _ _ _ h => h) (yk_bin (by kernel_rfl) _ _ _ _ _ rfl (.int .i64 (chkN ok)) (.int .i64 (chkN ok)) (by kernel_rfl) (by kernel_rfl) _ (fun w' hw' => by go_simp)) hH4 ?_
  refine wpAnyH_take (i := 18) (v := .bool true) rfl (by kernel_rfl) (by kernel_rfl) (by kernel_rfl) (fun _ _ _ h => h) (yk_pick (by kernel_rfl) _ _ _ rfl true (by kernel_rfl) _ (by kernel_rfl)) hH4 ?_
  refine wpAnyH_take (i := 19) (v := .bool true) rfl (by kernel_rfl) (by kernel_rfl) (by kernel_rfl) (fun _ _ _ h => h) (yk_move (by kernel_rfl) _ rfl _ (by kernel_rfl)) hH4 ?_
  refine wpAnyH_take (i := 20) (v := .agg #[.int .i64 q, .string s, .string k, .string d, .int .u64 (limb n 0), .int .u64 (limb n 1), .int .u64 (limb n 2), .int .u64 (limb n 3), .string f, .string g, .int .i64 h, .int .i64 t]) rfl (by kernel_rfl) (by kernel_rfl) (by kernel_rfl) (fun _ _ _ h => h) (yk_load (by kernel_rfl) _ _ rfl (.pointer (some ⟨w.heap.size, 0, none⟩)) (by kernel_rfl) _ (fun w' hw' => by have c0 := hw'.k1.cell 0; have c1 := hw'.k1.cell 1; have c2 := hw'.k1.cell 2; have c3 := hw'.k1.cell 3; have c4 := hw'.k1.cell 4; have c5 := hw'.k1.cell 5; have c6 := hw'.k1.cell 6; have c7 := hw'.k1.cell 7; have c8 := hw'.k1.cell 8; have c9 := hw'.k1.cell 9; have c10 := hw'.k1.cell 10; have c11 := hw'.k1.cell 11; go_simp)) hH4 ?_
  refine wpAnyH_take (i := 22) (v := .agg #[.int .i64 q, .string s, .string k, .string d, .int .u64 (limb n 0), .int .u64 (limb n 1), .int .u64 (limb n 2), .int .u64 (limb n 3), .string f, .string g, .int .i64 h, .int .i64 t]) rfl (by kernel_rfl) (by kernel_rfl) (by kernel_rfl) (fun _ _ _ h => h) (yk_load (by kernel_rfl) _ _ rfl (.pointer (some ⟨w.heap.size, 0, none⟩)) (by kernel_rfl) _ (fun w' hw' => by have c0 := hw'.k1.cell 0; have c1 := hw'.k1.cell 1; have c2 := hw'.k1.cell 2; have c3 := hw'.k1.cell 3; have c4 := hw'.k1.cell 4; have c5 := hw'.k1.cell 5; have c6 := hw'.k1.cell 6; have c7 := hw'.k1.cell 7; have c8 := hw'.k1.cell 8; have c9 := hw'.k1.cell 9; have c10 := hw'.k1.cell 10; have c11 := hw'.k1.cell 11; go_simp)) hH4 ?_
  refine wpAnyH_ready (rs := [21]) (by kernel_rfl) (by simp) ?_
  refine AllReadyH.cons rfl (fun K hK => ?_) AllReadyH.nil
  go_simp
  go_at_call 12
  refine (pkbytes_any q h t s k d f g n _ (by omega) (by omega) (by omega) (by omega) (by omega) hq hh ht).mono ?_
  rintro e w21 ⟨u, rfl, hu, hd21⟩
  go_wp2_with fail
  refine hK.out _ _ (B3.on hH4 hd21) (fun hH5 => ?_)
  clear hK K
  refine wpAnyH_ready (rs := [23]) (by kernel_rfl) (by simp) ?_
  refine AllReadyH.cons rfl (fun K hK => ?_) AllReadyH.nil
  go_simp
  go_at_call 17
  refine (r13bytes_any q h t s k d f g n _ (by omega) (by omega) (by omega) (by omega) (by omega) hq hh ht).mono ?_
  rintro e w23 ⟨u2, rfl, hu2, hd23⟩
  obtain rfl : u = u2 := bysN_inj (hu.trans hu2.symm)
  go_wp2_with fail
  refine hK.out _ _ (B3.on hH5 hd23) (fun hH6 => ?_)
  clear hK K
  refine wpAnyH_take (i := 24) (v := .bool true) rfl (by kernel_rfl) (by kernel_rfl) (by kernel_rfl) (fun _ _ _ h => h) (yk_bin (by kernel_rfl) _ _ _ _ _ rfl (.string u) (.string u) (by kernel_rfl) (by kernel_rfl) _ (fun w' hw' => by go_simp)) hH6 ?_
  refine wpAnyH_take (i := 25) (v := .bool true) rfl (by kernel_rfl) (by kernel_rfl) (by kernel_rfl) (fun _ _ _ h => h) (yk_pick (by kernel_rfl) _ _ _ rfl true (by kernel_rfl) _ (by kernel_rfl)) hH6 ?_
  refine wpAnyH_take (i := 26) (v := .bool true) rfl (by kernel_rfl) (by kernel_rfl) (by kernel_rfl) (fun _ _ _ h => h) (yk_move (by kernel_rfl) _ rfl _ (by kernel_rfl)) hH6 ?_
  refine wpAnyH_take (i := 27) (v := .agg #[.int .i64 q, .string s, .string k, .string d, .int .u64 (limb n 0), .int .u64 (limb n 1), .int .u64 (limb n 2), .int .u64 (limb n 3), .string f, .string g, .int .i64 h, .int .i64 t]) rfl (by kernel_rfl) (by kernel_rfl) (by kernel_rfl) (fun _ _ _ h => h) (yk_load (by kernel_rfl) _ _ rfl (.pointer (some ⟨w.heap.size, 0, none⟩)) (by kernel_rfl) _ (fun w' hw' => by have c0 := hw'.k1.cell 0; have c1 := hw'.k1.cell 1; have c2 := hw'.k1.cell 2; have c3 := hw'.k1.cell 3; have c4 := hw'.k1.cell 4; have c5 := hw'.k1.cell 5; have c6 := hw'.k1.cell 6; have c7 := hw'.k1.cell 7; have c8 := hw'.k1.cell 8; have c9 := hw'.k1.cell 9; have c10 := hw'.k1.cell 10; have c11 := hw'.k1.cell 11; go_simp)) hH6 ?_
  refine wpAnyH_take (i := 29) (v := .agg #[.int .i64 q, .string s, .string k, .string d, .int .u64 (limb n 0), .int .u64 (limb n 1), .int .u64 (limb n 2), .int .u64 (limb n 3), .string f, .string g, .int .i64 h, .int .i64 t]) rfl (by kernel_rfl) (by kernel_rfl) (by kernel_rfl) (fun _ _ _ h => h) (yk_load (by kernel_rfl) _ _ rfl (.pointer (some ⟨w.heap.size, 0, none⟩)) (by kernel_rfl) _ (fun w' hw' => by have c0 := hw'.k1.cell 0; have c1 := hw'.k1.cell 1; have c2 := hw'.k1.cell 2; have c3 := hw'.k1.cell 3; have c4 := hw'.k1.cell 4; have c5 := hw'.k1.cell 5; have c6 := hw'.k1.cell 6; have c7 := hw'.k1.cell 7; have c8 := hw'.k1.cell 8; have c9 := hw'.k1.cell 9; have c10 := hw'.k1.cell 10; have c11 := hw'.k1.cell 11; go_simp)) hH6 ?_
  refine wpAnyH_ready (rs := [28]) (by kernel_rfl) (by simp) ?_
  refine AllReadyH.cons rfl (fun K hK => ?_) AllReadyH.nil
  go_simp
  go_at_call 18
  refine (commit_any q h t s k d f g n _ (by omega) (by omega) (by omega) (by omega) (by omega) hq hh ht (Lib.hid hH6.hT)).mono ?_
  rintro e w28 ⟨rfl, hd28⟩
  rw [HCC.out]
  go_wp2_with fail
  refine hK.out _ _ (B3.on hH6 hd28) (fun hH7 => ?_)
  clear hK K
  refine wpAnyH_ready (rs := [30]) (by kernel_rfl) (by simp) ?_
  refine AllReadyH.cons rfl (fun K hK => ?_) AllReadyH.nil
  go_simp
  go_at_call 19
  refine (r13commit_any q h t s k d f g n _ (by omega) (by omega) (by omega) (by omega) (by omega) hq hh ht).mono ?_
  rintro e w30 ⟨rfl, hd30⟩
  rw [HCC.out]
  go_wp2_with fail
  refine hK.out _ _ (B3.on hH7 hd30) (fun hH8 => ?_)
  clear hK K
  refine wpAnyH_take (i := 31) (v := .bool true) rfl (by kernel_rfl) (by kernel_rfl) (by kernel_rfl) (fun _ _ _ h => h) (yk_bin (by kernel_rfl) _ _ _ _ _ rfl (.string CC) (.string CC) (by kernel_rfl) (by kernel_rfl) _ (fun w' hw' => by go_simp)) hH8 ?_
  refine wpAnyH_take (i := 32) (v := .bool true) rfl (by kernel_rfl) (by kernel_rfl) (by kernel_rfl) (fun _ _ _ h => h) (yk_pick (by kernel_rfl) _ _ _ rfl true (by kernel_rfl) _ (by kernel_rfl)) hH8 ?_
  refine wpAnyH_take (i := 33) (v := .bool true) rfl (by kernel_rfl) (by kernel_rfl) (by kernel_rfl) (fun _ _ _ h => h) (yk_move (by kernel_rfl) _ rfl _ (by kernel_rfl)) hH8 ?_
  refine wpAnyH_take (i := 34) (v := .agg #[.int .i64 q, .string s, .string k, .string d, .int .u64 (limb n 0), .int .u64 (limb n 1), .int .u64 (limb n 2), .int .u64 (limb n 3), .string f, .string g, .int .i64 h, .int .i64 t]) rfl (by kernel_rfl) (by kernel_rfl) (by kernel_rfl) (fun _ _ _ h => h) (yk_load (by kernel_rfl) _ _ rfl (.pointer (some ⟨w.heap.size, 0, none⟩)) (by kernel_rfl) _ (fun w' hw' => by have c0 := hw'.k1.cell 0; have c1 := hw'.k1.cell 1; have c2 := hw'.k1.cell 2; have c3 := hw'.k1.cell 3; have c4 := hw'.k1.cell 4; have c5 := hw'.k1.cell 5; have c6 := hw'.k1.cell 6; have c7 := hw'.k1.cell 7; have c8 := hw'.k1.cell 8; have c9 := hw'.k1.cell 9; have c10 := hw'.k1.cell 10; have c11 := hw'.k1.cell 11; go_simp)) hH8 ?_
  refine wpAnyH_take (i := 35) (v := .pointer (some ⟨w.heap.size + 1, 0, none⟩)) rfl (by kernel_rfl) (by kernel_rfl) (by kernel_rfl) (fun _ _ _ h => h) (yk_ia (by kernel_rfl) _ _ _ rfl (.pointer (some ⟨w.heap.size + 1, 0, none⟩)) (.int .i64 0) (by kernel_rfl) (by kernel_rfl) _ (fun w' hw' => by go_simp)) hH8 ?_
  refine wpAnyH_take (i := 36) (v := .int .i64 y) rfl (by kernel_rfl) (by kernel_rfl) (by kernel_rfl) (fun _ _ _ h => h) (yk_load (by kernel_rfl) _ _ rfl (.pointer (some ⟨w.heap.size + 1, 0, none⟩)) (by kernel_rfl) _ (fun w' hw' => by have c0 := hw'.k2.cell 0; go_simp)) hH8 ?_
  refine wpAnyH_take (i := 37) (v := .pointer (some ⟨w.heap.size + 1, 1, none⟩)) rfl (by kernel_rfl) (by kernel_rfl) (by kernel_rfl) (fun _ _ _ h => h) (yk_ia (by kernel_rfl) _ _ _ rfl (.pointer (some ⟨w.heap.size + 1, 0, none⟩)) (.int .i64 1) (by kernel_rfl) (by kernel_rfl) _ (fun w' hw' => by go_simp)) hH8 ?_
  refine wpAnyH_take (i := 38) (v := .int .i64 z) rfl (by kernel_rfl) (by kernel_rfl) (by kernel_rfl) (fun _ _ _ h => h) (yk_load (by kernel_rfl) _ _ rfl (.pointer (some ⟨w.heap.size + 1, 1, none⟩)) (by kernel_rfl) _ (fun w' hw' => by have c0 := hw'.k2.cell 1; go_simp)) hH8 ?_
  refine wpAnyH_take (i := 40) (v := .agg #[.int .i64 q, .string s, .string k, .string d, .int .u64 (limb n 0), .int .u64 (limb n 1), .int .u64 (limb n 2), .int .u64 (limb n 3), .string f, .string g, .int .i64 h, .int .i64 t]) rfl (by kernel_rfl) (by kernel_rfl) (by kernel_rfl) (fun _ _ _ h => h) (yk_load (by kernel_rfl) _ _ rfl (.pointer (some ⟨w.heap.size, 0, none⟩)) (by kernel_rfl) _ (fun w' hw' => by have c0 := hw'.k1.cell 0; have c1 := hw'.k1.cell 1; have c2 := hw'.k1.cell 2; have c3 := hw'.k1.cell 3; have c4 := hw'.k1.cell 4; have c5 := hw'.k1.cell 5; have c6 := hw'.k1.cell 6; have c7 := hw'.k1.cell 7; have c8 := hw'.k1.cell 8; have c9 := hw'.k1.cell 9; have c10 := hw'.k1.cell 10; have c11 := hw'.k1.cell 11; go_simp)) hH8 ?_
  refine wpAnyH_take (i := 41) (v := .pointer (some ⟨w.heap.size + 1, 0, none⟩)) rfl (by kernel_rfl) (by kernel_rfl) (by kernel_rfl) (fun _ _ _ h => h) (yk_ia (by kernel_rfl) _ _ _ rfl (.pointer (some ⟨w.heap.size + 1, 0, none⟩)) (.int .i64 0) (by kernel_rfl) (by kernel_rfl) _ (fun w' hw' => by go_simp)) hH8 ?_
  refine wpAnyH_take (i := 42) (v := .int .i64 y) rfl (by kernel_rfl) (by kernel_rfl) (by kernel_rfl) (fun _ _ _ h => h) (yk_load (by kernel_rfl) _ _ rfl (.pointer (some ⟨w.heap.size + 1, 0, none⟩)) (by kernel_rfl) _ (fun w' hw' => by have c0 := hw'.k2.cell 0; go_simp)) hH8 ?_
  refine wpAnyH_take (i := 43) (v := .pointer (some ⟨w.heap.size + 1, 1, none⟩)) rfl (by kernel_rfl) (by kernel_rfl) (by kernel_rfl) (fun _ _ _ h => h) (yk_ia (by kernel_rfl) _ _ _ rfl (.pointer (some ⟨w.heap.size + 1, 0, none⟩)) (.int .i64 1) (by kernel_rfl) (by kernel_rfl) _ (fun w' hw' => by go_simp)) hH8 ?_
  refine wpAnyH_take (i := 44) (v := .int .i64 z) rfl (by kernel_rfl) (by kernel_rfl) (by kernel_rfl) (fun _ _ _ h => h) (yk_load (by kernel_rfl) _ _ rfl (.pointer (some ⟨w.heap.size + 1, 1, none⟩)) (by kernel_rfl) _ (fun w' hw' => by have c0 := hw'.k2.cell 1; go_simp)) hH8 ?_
  refine wpAnyH_ready (rs := [39]) (by kernel_rfl) (by simp) ?_
  refine AllReadyH.cons rfl (fun K hK => ?_) AllReadyH.nil
  go_simp
  go_at_call 20
  refine (late_any _ _ _ _ _ _ _ _ _ _ h t y z _).mono ?_
  rintro e w39 ⟨rfl, hd39⟩
  rw [Hlt.out]
  go_wp2_with fail
  refine hK.out _ _ (B3.on hH8 hd39) (fun hH9 => ?_)
  clear hK K
  refine wpAnyH_ready (rs := [45]) (by kernel_rfl) (by simp) ?_
  refine AllReadyH.cons rfl (fun K hK => ?_) AllReadyH.nil
  go_simp
  go_at_call 21
  refine (r13late_any _ _ _ _ _ _ _ _ _ _ h t y z _).mono ?_
  rintro e w45 ⟨rfl, hd45⟩
  rw [Hlt.out]
  go_wp2_with fail
  refine hK.out _ _ (B3.on hH9 hd45) (fun hH10 => ?_)
  clear hK K
  refine wpAnyH_take (i := 46) (v := .bool true) rfl (by kernel_rfl) (by kernel_rfl) (by kernel_rfl) (fun _ _ _ h => h) (yk_bin (by kernel_rfl) _ _ _ _ _ rfl (.bool lt) (.bool lt) (by kernel_rfl) (by kernel_rfl) _ (fun w' hw' => by go_simp)) hH10 ?_
  refine wpAnyH_take (i := 47) (v := .bool true) rfl (by kernel_rfl) (by kernel_rfl) (by kernel_rfl) (fun _ _ _ h => h) (yk_pick (by kernel_rfl) _ _ _ rfl true (by kernel_rfl) _ (by kernel_rfl)) hH10 ?_
  refine wpAnyH_take (i := 48) (v := .bool true) rfl (by kernel_rfl) (by kernel_rfl) (by kernel_rfl) (fun _ _ _ h => h) (yk_assign (by kernel_rfl) _ rfl _ (by kernel_rfl)) hH10 ?_
  refine wpAnyH_done (by kernel_rfl) ?_ _
  have hbf := hH10.hb
  go_wp2_with fail
  go_ret
  exact ⟨rfl, hbf⟩
end Go.Proofs.YtbimnfmjgmfijaaDoor

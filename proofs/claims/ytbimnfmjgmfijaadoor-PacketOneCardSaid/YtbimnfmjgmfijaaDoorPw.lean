/- The law PacketOne's walk. -/
import Derived.Test.YtbimnfmjgmfijaaDoorMP
namespace Go.Proofs.YtbimnfmjgmfijaaDoor
open Go.RowKit
attribute [local go_sem ↓] Go.wp_at_zero Go.wp_at_succ
/-- The boxes of two packets, and the hash's tables. -/
structure B2 (w0 : World) (g1 g2 : Nat) (c1 c2 : Array Value) (W : World) : Prop where
  k1 : Blk W g1 30 c1
  k2 : Blk W g2 30 c2
  hb : Below w0.heap.size w0 W
  hT : Tabs W
theorem B2.on {w0 W W' : World} {g1 g2 : Nat} {c1 c2 : Array Value} (h : B2 w0 g1 g2 c1 c2 W) (hb : Below W.heap.size W W') : B2 w0 g1 g2 c1 c2 W' := ⟨h.k1.on hb, h.k2.on hb, BW_on h.hb hb, h.hT.on hb⟩
theorem B2.drew {w0 W : World} {g1 g2 : Nat} {c1 c2 : Array Value} (h : B2 w0 g1 g2 c1 c2 W) : B2 w0 g1 g2 c1 c2 W.drew := h.on (Below.refl _ _).drew
set_option maxHeartbeats 8000000 in
set_option maxRecDepth 100000 in
theorem l13one_any (q h t : Int) (s0 k0 d0 f0 g0 : ByteArray) (n : Nat) (q' h' t' : Int) (s0' k0' d0' f0' g0' : ByteArray) (n' : Nat) (one : Bool) (w : World) (hn : W256 n) (hq : q ≤ 9223372036854775807) (hh : h ≤ 9223372036854775807) (ht : t ≤ 9223372036854775807) (hn' : W256 n') (hq' : q' ≤ 9223372036854775807) (hh' : h' ≤ 9223372036854775807) (ht' : t' ≤ 9223372036854775807) (hT : Hid (Tabs w)) :
    Calls Tryd.prog 6 #[.agg #[.int .i64 q, .string s0, .string k0, .string d0, .int .u64 (limb n 0), .int .u64 (limb n 1), .int .u64 (limb n 2), .int .u64 (limb n 3), .string f0, .string g0, .int .i64 h, .int .i64 t], .agg #[.int .i64 q', .string s0', .string k0', .string d0', .int .u64 (limb n' 0), .int .u64 (limb n' 1), .int .u64 (limb n' 2), .int .u64 (limb n' 3), .string f0', .string g0', .int .i64 h', .int .i64 t'], .bool one] w fun e w' => e = .returned (.bool true) ∧ Below w.heap.size w w' := by
  have xs := shN_size s0 80
  have xk := shN_size k0 80
  have xd := shN_size d0 210
  have xf := shN_size f0 80
  have xg := shN_size g0 80
  have hsm := Lib.hid (fun w => small13_any q h t (limb n 0) (limb n 1) (limb n 2) (limb n 3) s0 k0 d0 f0 g0 w)
  have Hn := Lib.hid hn
  have xs' := shN_size s0' 80
  have xk' := shN_size k0' 80
  have xd' := shN_size d0' 210
  have xf' := shN_size f0' 80
  have xg' := shN_size g0' 80
  have hsm' := Lib.hid (fun w => small13_any q' h' t' (limb n' 0) (limb n' 1) (limb n' 2) (limb n' 3) s0' k0' d0' f0' g0' w)
  have Hn' := Lib.hid hn'
  have k1 := (blk1 w 30 #[.int .i64 q, .string s0, .string k0, .string d0, .int .u64 (limb n 0), .int .u64 (limb n 1), .int .u64 (limb n 2), .int .u64 (limb n 3), .string f0, .string g0, .int .i64 h, .int .i64 t]).alloc (.cells #[.int .i64 q', .string s0', .string k0', .string d0', .int .u64 (limb n' 0), .int .u64 (limb n' 1), .int .u64 (limb n' 2), .int .u64 (limb n' 3), .string f0', .string g0', .int .i64 h', .int .i64 t'] 30)
  have k2 := blk2 w (.cells #[.int .i64 q, .string s0, .string k0, .string d0, .int .u64 (limb n 0), .int .u64 (limb n 1), .int .u64 (limb n 2), .int .u64 (limb n 3), .string f0, .string g0, .int .i64 h, .int .i64 t] 30) 30 #[.int .i64 q', .string s0', .string k0', .string d0', .int .u64 (limb n' 0), .int .u64 (limb n' 1), .int .u64 (limb n' 2), .int .u64 (limb n' 3), .string f0', .string g0', .int .i64 h', .int .i64 t']
  have bb := BW_alloc (BW_alloc (BW_refl w) (.cells #[.int .i64 q, .string s0, .string k0, .string d0, .int .u64 (limb n 0), .int .u64 (limb n 1), .int .u64 (limb n 2), .int .u64 (limb n 3), .string f0, .string g0, .int .i64 h, .int .i64 t] 30)) (.cells #[.int .i64 q', .string s0', .string k0', .string d0', .int .u64 (limb n' 0), .int .u64 (limb n' 1), .int .u64 (limb n' 2), .int .u64 (limb n' 3), .string f0', .string g0', .int .i64 h', .int .i64 t'] 30)
  have hne1 : w.heap.size ≠ w.heap.size + 1 := by omega
  have hne2 : w.heap.size + 1 ≠ w.heap.size := by omega
  clear hn hn'
  go_enter Tryd.func6, Tryd.ntmps6
  go_wp2_with (first
    | (go_at_call 7; refine (awake13 _).mono ?_; rintro e w1 ⟨rfl, hb1⟩; replace k1 := k1.on hb1; replace k2 := k2.on hb1; replace bb := BW_on bb hb1; have co1 := (fun i => k1.cell i))
    | (go_at_call 11; refine (hsm.out _).mono ?_))
  rintro e w2 ⟨rfl, hb2⟩
  generalize shN s0 80 = s at *
  generalize shN k0 80 = k at *
  generalize shN d0 210 = d at *
  generalize shN f0 80 = f at *
  generalize shN g0 80 = g at *
  generalize shN s0' 80 = s' at *
  generalize shN k0' 80 = k' at *
  generalize shN d0' 210 = d' at *
  generalize shN f0' 80 = f' at *
  generalize shN g0' 80 = g' at *
  have j1 := k1.on hb2
  have j2 := k2.on hb2
  have jb := BW_on bb hb2
  have fo2 := fun i => j1.free i
  have co2 := fun i => j1.cell i
  have m1 := j1.store12 (.int .i64 q) (.string s) (.string k) (.string d) (.int .u64 (limb n 0)) (.int .u64 (limb n 1)) (.int .u64 (limb n 2)) (.int .u64 (limb n 3)) (.string f) (.string g) (.int .i64 h) (.int .i64 t)
  have m2 := j2.far12 hne2 (.int .i64 q) (.string s) (.string k) (.string d) (.int .u64 (limb n 0)) (.int .u64 (limb n 1)) (.int .u64 (limb n 2)) (.int .u64 (limb n 3)) (.string f) (.string g) (.int .i64 h) (.int .i64 t)
  have mb := below_store12 jb (Nat.le_refl w.heap.size) (.int .i64 q) (.string s) (.string k) (.string d) (.int .u64 (limb n 0)) (.int .u64 (limb n 1)) (.int .u64 (limb n 2)) (.int .u64 (limb n 3)) (.string f) (.string g) (.int .i64 h) (.int .i64 t)
  have cm2 := fun i => m2.cell i
  clear k1 k2 bb hb2 j2
  go_wp2_with (go_at_call 11; refine (hsm'.out _).mono ?_)
  rintro e w3 ⟨rfl, hb3⟩
  have p1 := m1.on hb3
  have p2 := m2.on hb3
  have pb := BW_on mb hb3
  have fo3 := fun i => p2.free i
  have co3 := fun i => p2.cell i
  have r2 := p2.store12 (.int .i64 q') (.string s') (.string k') (.string d') (.int .u64 (limb n' 0)) (.int .u64 (limb n' 1)) (.int .u64 (limb n' 2)) (.int .u64 (limb n' 3)) (.string f') (.string g') (.int .i64 h') (.int .i64 t')
  have r1 := p1.far12 hne1 (.int .i64 q') (.string s') (.string k') (.string d') (.int .u64 (limb n' 0)) (.int .u64 (limb n' 1)) (.int .u64 (limb n' 2)) (.int .u64 (limb n' 3)) (.string f') (.string g') (.int .i64 h') (.int .i64 t')
  have rb := below_store12 pb (by omega : w.heap.size ≤ w.heap.size + 1) (.int .i64 q') (.string s') (.string k') (.string d') (.int .u64 (limb n' 0)) (.int .u64 (limb n' 1)) (.int .u64 (limb n' 2)) (.int .u64 (limb n' 3)) (.string f') (.string g') (.int .i64 h') (.int .i64 t')
  go_upto_region 4 with (fail)
  change Code.wp _ _ _ _ ((((((((((((w3.setCell ⟨w.heap.size + 1, 0, none⟩ (.int .i64 q')).setCell ⟨w.heap.size + 1, 1, none⟩ (.string s')).setCell ⟨w.heap.size + 1, 2, none⟩ (.string k')).setCell ⟨w.heap.size + 1, 3, none⟩ (.string d')).setCell ⟨w.heap.size + 1, 4, none⟩ (.int .u64 (limb n' 0))).setCell ⟨w.heap.size + 1, 5, none⟩ (.int .u64 (limb n' 1))).setCell ⟨w.heap.size + 1, 6, none⟩ (.int .u64 (limb n' 2))).setCell ⟨w.heap.size + 1, 7, none⟩ (.int .u64 (limb n' 3))).setCell ⟨w.heap.size + 1, 8, none⟩ (.string f')).setCell ⟨w.heap.size + 1, 9, none⟩ (.string g')).setCell ⟨w.heap.size + 1, 10, none⟩ (.int .i64 h')).setCell ⟨w.heap.size + 1, 11, none⟩ (.int .i64 t'))
  generalize (((((((((((w3.setCell ⟨w.heap.size + 1, 0, none⟩ (.int .i64 q')).setCell ⟨w.heap.size + 1, 1, none⟩ (.string s')).setCell ⟨w.heap.size + 1, 2, none⟩ (.string k')).setCell ⟨w.heap.size + 1, 3, none⟩ (.string d')).setCell ⟨w.heap.size + 1, 4, none⟩ (.int .u64 (limb n' 0))).setCell ⟨w.heap.size + 1, 5, none⟩ (.int .u64 (limb n' 1))).setCell ⟨w.heap.size + 1, 6, none⟩ (.int .u64 (limb n' 2))).setCell ⟨w.heap.size + 1, 7, none⟩ (.int .u64 (limb n' 3))).setCell ⟨w.heap.size + 1, 8, none⟩ (.string f')).setCell ⟨w.heap.size + 1, 9, none⟩ (.string g')).setCell ⟨w.heap.size + 1, 10, none⟩ (.int .i64 h')).setCell ⟨w.heap.size + 1, 11, none⟩ (.int .i64 t') = W at *
  clear fo3 co3 fo2 co2 m1 m2 mb hb3 p1 p2 pb hsm hsm'
  have cr1 := fun i => r1.cell i
  have cr2 := fun i => r2.cell i
  have fr2 := fun i => r2.free i
  obtain ⟨ok1, hok1⟩ : ∃ b, okP q h t (bysN s) (bysN k) (bysN d) (bysN f) (bysN g) n = b := ⟨_, rfl⟩
  have Hok1 := Lib.hid hok1
  clear hok1
  cases one
  · cases ok1
    · go_wp2_with (go_at_call 13; first | (have := fl8; refine (check13_any q' h' t' s' k' d' f' g' n' _ (by omega) (by omega) (by omega) (by omega) (by omega) Hn'.out).mono ?_; rintro e w8 ⟨rfl, hb8⟩; rw [Hok1.out]; replace r1 := r1.on hb8; replace r2 := r2.on hb8; replace rb := BW_on rb hb8; have cs1 := (fun i => r1.cell i); have cs2 := (fun i => r2.cell i); clear hb8) | (refine (check13_any q h t s k d f g n _ (by omega) (by omega) (by omega) (by omega) (by omega) Hn.out).mono ?_; rintro e w8 ⟨rfl, hb8⟩; rw [Hok1.out]; replace r1 := r1.on hb8; replace r2 := r2.on hb8; replace rb := BW_on rb hb8; have cs1 := (fun i => r1.cell i); have cs2 := (fun i => r2.cell i); clear hb8; have fl8 := True.intro))
      go_ret
      exact ⟨rfl, rb⟩
    · obtain ⟨ok2, hok2⟩ : ∃ b, okP q' h' t' (bysN s') (bysN k') (bysN d') (bysN f') (bysN g') n' = b := ⟨_, rfl⟩
      have Hok2 := Lib.hid hok2
      clear hok2
      cases ok2
      · go_wp2_with (go_at_call 13; first | (have := fl8; refine (check13_any q' h' t' s' k' d' f' g' n' _ (by omega) (by omega) (by omega) (by omega) (by omega) Hn'.out).mono ?_; rintro e w8 ⟨rfl, hb8⟩; rw [Hok2.out]; replace r1 := r1.on hb8; replace r2 := r2.on hb8; replace rb := BW_on rb hb8; have cs1 := (fun i => r1.cell i); have cs2 := (fun i => r2.cell i); clear hb8) | (refine (check13_any q h t s k d f g n _ (by omega) (by omega) (by omega) (by omega) (by omega) Hn.out).mono ?_; rintro e w8 ⟨rfl, hb8⟩; rw [Hok1.out]; replace r1 := r1.on hb8; replace r2 := r2.on hb8; replace rb := BW_on rb hb8; have cs1 := (fun i => r1.cell i); have cs2 := (fun i => r2.cell i); clear hb8; have fl8 := True.intro))
        go_ret
        exact ⟨rfl, rb⟩
      · by_cases hE : eqP q h t q' h' t' s k d f g s' k' d' f' g' n n'
        · obtain ⟨rfl, rfl, rfl, rfl, rfl, rfl, rfl, rfl, rfl⟩ := hE
          go_wp2_with (go_at_call 13; refine (check13_any q h t s k d f g n _ (by omega) (by omega) (by omega) (by omega) (by omega) Hn.out).mono ?_)
          rintro e w8 ⟨rfl, hb8⟩
          rw [Hok1.out]
          replace r1 := r1.on hb8
          replace r2 := r2.on hb8
          replace rb := BW_on rb hb8
          have cs1 := (fun i => r1.cell i)
          have cs2 := (fun i => r2.cell i)
          clear hb8
          go_wp2_with (go_at_call 13; refine (check13_any q h t s k d f g n _ (by omega) (by omega) (by omega) (by omega) (by omega) Hn.out).mono ?_)
          rintro e w8 ⟨rfl, hb8⟩
          rw [Hok1.out]
          replace r1 := r1.on hb8
          replace r2 := r2.on hb8
          replace rb := BW_on rb hb8
          have cs1 := (fun i => r1.cell i)
          have cs2 := (fun i => r2.cell i)
          clear hb8
          go_upto_region 8 with (fail)
          have heq := eqPkt_refl q h t (limb n 0) (limb n 1) (limb n 2) (limb n 3) s k d f g
          obtain ⟨CC, hCC⟩ : ∃ CC, byt (sha (80 :: pkB q h t (bysN s) (bysN k) (bysN d) n (bysN f) (bysN g))) = CC := ⟨_, rfl⟩
          refine wp_region_held_drew (S := B2 w w.heap.size (w.heap.size + 1) #[.int .i64 q, .string s, .string k, .string d, .int .u64 (limb n 0), .int .u64 (limb n 1), .int .u64 (limb n 2), .int .u64 (limb n 3), .string f, .string g, .int .i64 h, .int .i64 t] #[.int .i64 q, .string s, .string k, .string d, .int .u64 (limb n 0), .int .u64 (limb n 1), .int .u64 (limb n 2), .int .u64 (limb n 3), .string f, .string g, .int .i64 h, .int .i64 t]) (by kernel_rfl) (B2.drew ⟨r1, r2, rb, hT.out.on rb⟩) (fun hH0 => ?_)
          refine wpAnyH_take (i := 0) (v := .bool true) rfl (by kernel_rfl) (by kernel_rfl) (by kernel_rfl) (fun _ _ _ h => h) (yk_move (by kernel_rfl) _ rfl _ (by kernel_rfl)) hH0 ?_
          refine wpAnyH_take (i := 1) (v := .bool true) rfl (by kernel_rfl) (by kernel_rfl) (by kernel_rfl) (fun _ _ _ h => h) (yk_move (by kernel_rfl) _ rfl _ (by kernel_rfl)) hH0 ?_
          refine wpAnyH_take (i := 2) (v := .agg #[.int .i64 q, .string s, .string k, .string d, .int .u64 (limb n 0), .int .u64 (limb n 1), .int .u64 (limb n 2), .int .u64 (limb n 3), .string f, .string g, .int .i64 h, .int .i64 t]) rfl (by kernel_rfl) (by kernel_rfl) (by kernel_rfl) (fun _ _ _ h => h) (yk_load (by kernel_rfl) _ _ rfl (.pointer (some ⟨w.heap.size, 0, none⟩)) (by kernel_rfl) _ (fun w' hw' => by have c0 := hw'.k1.cell 0; have c1 := hw'.k1.cell 1; have c2 := hw'.k1.cell 2; have c3 := hw'.k1.cell 3; have c4 := hw'.k1.cell 4; have c5 := hw'.k1.cell 5; have c6 := hw'.k1.cell 6; have c7 := hw'.k1.cell 7; have c8 := hw'.k1.cell 8; have c9 := hw'.k1.cell 9; have c10 := hw'.k1.cell 10; have c11 := hw'.k1.cell 11; go_simp)) hH0 ?_
          refine wpAnyH_take (i := 4) (v := .agg #[.int .i64 q, .string s, .string k, .string d, .int .u64 (limb n 0), .int .u64 (limb n 1), .int .u64 (limb n 2), .int .u64 (limb n 3), .string f, .string g, .int .i64 h, .int .i64 t]) rfl (by kernel_rfl) (by kernel_rfl) (by kernel_rfl) (fun _ _ _ h => h) (yk_load (by kernel_rfl) _ _ rfl (.pointer (some ⟨w.heap.size + 1, 0, none⟩)) (by kernel_rfl) _ (fun w' hw' => by have c0 := hw'.k2.cell 0; have c1 := hw'.k2.cell 1; have c2 := hw'.k2.cell 2; have c3 := hw'.k2.cell 3; have c4 := hw'.k2.cell 4; have c5 := hw'.k2.cell 5; have c6 := hw'.k2.cell 6; have c7 := hw'.k2.cell 7; have c8 := hw'.k2.cell 8; have c9 := hw'.k2.cell 9; have c10 := hw'.k2.cell 10; have c11 := hw'.k2.cell 11; go_simp)) hH0 ?_
          refine wpAnyH_take (i := 7) (v := .agg #[.int .i64 q, .string s, .string k, .string d, .int .u64 (limb n 0), .int .u64 (limb n 1), .int .u64 (limb n 2), .int .u64 (limb n 3), .string f, .string g, .int .i64 h, .int .i64 t]) rfl (by kernel_rfl) (by kernel_rfl) (by kernel_rfl) (fun _ _ _ h => h) (yk_load (by kernel_rfl) _ _ rfl (.pointer (some ⟨w.heap.size, 0, none⟩)) (by kernel_rfl) _ (fun w' hw' => by have c0 := hw'.k1.cell 0; have c1 := hw'.k1.cell 1; have c2 := hw'.k1.cell 2; have c3 := hw'.k1.cell 3; have c4 := hw'.k1.cell 4; have c5 := hw'.k1.cell 5; have c6 := hw'.k1.cell 6; have c7 := hw'.k1.cell 7; have c8 := hw'.k1.cell 8; have c9 := hw'.k1.cell 9; have c10 := hw'.k1.cell 10; have c11 := hw'.k1.cell 11; go_simp)) hH0 ?_
          refine wpAnyH_take (i := 8) (v := .agg #[.int .i64 q, .string s, .string k, .string d, .int .u64 (limb n 0), .int .u64 (limb n 1), .int .u64 (limb n 2), .int .u64 (limb n 3), .string f, .string g, .int .i64 h, .int .i64 t]) rfl (by kernel_rfl) (by kernel_rfl) (by kernel_rfl) (fun _ _ _ h => h) (yk_load (by kernel_rfl) _ _ rfl (.pointer (some ⟨w.heap.size + 1, 0, none⟩)) (by kernel_rfl) _ (fun w' hw' => by have c0 := hw'.k2.cell 0; have c1 := hw'.k2.cell 1; have c2 := hw'.k2.cell 2; have c3 := hw'.k2.cell 3; have c4 := hw'.k2.cell 4; have c5 := hw'.k2.cell 5; have c6 := hw'.k2.cell 6; have c7 := hw'.k2.cell 7; have c8 := hw'.k2.cell 8; have c9 := hw'.k2.cell 9; have c10 := hw'.k2.cell 10; have c11 := hw'.k2.cell 11; go_simp)) hH0 ?_
          refine wpAnyH_take (i := 9) (v := .bool true) rfl (by kernel_rfl) (by kernel_rfl) (by kernel_rfl) (fun _ _ _ h => h) (yk_bin (by kernel_rfl) _ _ _ _ _ rfl (.agg #[.int .i64 q, .string s, .string k, .string d, .int .u64 (limb n 0), .int .u64 (limb n 1), .int .u64 (limb n 2), .int .u64 (limb n 3), .string f, .string g, .int .i64 h, .int .i64 t]) (.agg #[.int .i64 q, .string s, .string k, .string d, .int .u64 (limb n 0), .int .u64 (limb n 1), .int .u64 (limb n 2), .int .u64 (limb n 3), .string f, .string g, .int .i64 h, .int .i64 t]) (by kernel_rfl) (by kernel_rfl) _ (fun w' hw' => by have h0 := heq w'; go_simp)) hH0 ?_
          refine wpAnyH_ready (rs := [3]) (by kernel_rfl) (by simp) ?_
          refine AllReadyH.cons rfl (fun K hK => ?_) AllReadyH.nil
          go_simp
          go_at_call 12
          refine (pkbytes_any q h t s k d f g n _ (by omega) (by omega) (by omega) (by omega) (by omega) hq hh ht).mono ?_
          rintro e w3 ⟨u, rfl, hu, hd3⟩
          go_wp2_with fail
          refine hK.out _ _ (B2.on hH0 hd3) (fun hH1 => ?_)
          clear hK K
          refine wpAnyH_ready (rs := [5]) (by kernel_rfl) (by simp) ?_
          refine AllReadyH.cons rfl (fun K hK => ?_) AllReadyH.nil
          go_simp
          go_at_call 12
          refine (pkbytes_any q h t s k d f g n _ (by omega) (by omega) (by omega) (by omega) (by omega) hq hh ht).mono ?_
          rintro e w5 ⟨u2, rfl, hu2, hd5⟩
          obtain rfl : u = u2 := bysN_inj (hu.trans hu2.symm)
          go_wp2_with fail
          refine hK.out _ _ (B2.on hH1 hd5) (fun hH2 => ?_)
          clear hK K
          refine wpAnyH_take (i := 6) (v := .bool true) rfl (by kernel_rfl) (by kernel_rfl) (by kernel_rfl) (fun _ _ _ h => h) (yk_bin (by kernel_rfl) _ _ _ _ _ rfl (.string u) (.string u) (by kernel_rfl) (by kernel_rfl) _ (fun w' hw' => by go_simp)) hH2 ?_
          refine wpAnyH_take (i := 10) (v := .bool true) rfl (by kernel_rfl) (by kernel_rfl) (by kernel_rfl) (fun _ _ _ h => h) (yk_bin (by kernel_rfl) _ _ _ _ _ rfl (.bool true) (.bool true) (by kernel_rfl) (by kernel_rfl) _ (fun w' hw' => by go_simp)) hH2 ?_
          refine wpAnyH_take (i := 11) (v := .bool true) rfl (by kernel_rfl) (by kernel_rfl) (by kernel_rfl) (fun _ _ _ h => h) (yk_pick (by kernel_rfl) _ _ _ rfl true (by kernel_rfl) _ (by kernel_rfl)) hH2 ?_
          refine wpAnyH_take (i := 12) (v := .bool true) rfl (by kernel_rfl) (by kernel_rfl) (by kernel_rfl) (fun _ _ _ h => h) (yk_move (by kernel_rfl) _ rfl _ (by kernel_rfl)) hH2 ?_
          refine wpAnyH_take (i := 13) (v := .agg #[.int .i64 q, .string s, .string k, .string d, .int .u64 (limb n 0), .int .u64 (limb n 1), .int .u64 (limb n 2), .int .u64 (limb n 3), .string f, .string g, .int .i64 h, .int .i64 t]) rfl (by kernel_rfl) (by kernel_rfl) (by kernel_rfl) (fun _ _ _ h => h) (yk_load (by kernel_rfl) _ _ rfl (.pointer (some ⟨w.heap.size, 0, none⟩)) (by kernel_rfl) _ (fun w' hw' => by have c0 := hw'.k1.cell 0; have c1 := hw'.k1.cell 1; have c2 := hw'.k1.cell 2; have c3 := hw'.k1.cell 3; have c4 := hw'.k1.cell 4; have c5 := hw'.k1.cell 5; have c6 := hw'.k1.cell 6; have c7 := hw'.k1.cell 7; have c8 := hw'.k1.cell 8; have c9 := hw'.k1.cell 9; have c10 := hw'.k1.cell 10; have c11 := hw'.k1.cell 11; go_simp)) hH2 ?_
          refine wpAnyH_take (i := 14) (v := .agg #[.int .i64 q, .string s, .string k, .string d, .int .u64 (limb n 0), .int .u64 (limb n 1), .int .u64 (limb n 2), .int .u64 (limb n 3), .string f, .string g, .int .i64 h, .int .i64 t]) rfl (by kernel_rfl) (by kernel_rfl) (by kernel_rfl) (fun _ _ _ h => h) (yk_load (by kernel_rfl) _ _ rfl (.pointer (some ⟨w.heap.size + 1, 0, none⟩)) (by kernel_rfl) _ (fun w' hw' => by have c0 := hw'.k2.cell 0; have c1 := hw'.k2.cell 1; have c2 := hw'.k2.cell 2; have c3 := hw'.k2.cell 3; have c4 := hw'.k2.cell 4; have c5 := hw'.k2.cell 5; have c6 := hw'.k2.cell 6; have c7 := hw'.k2.cell 7; have c8 := hw'.k2.cell 8; have c9 := hw'.k2.cell 9; have c10 := hw'.k2.cell 10; have c11 := hw'.k2.cell 11; go_simp)) hH2 ?_
          refine wpAnyH_take (i := 15) (v := .bool false) rfl (by kernel_rfl) (by kernel_rfl) (by kernel_rfl) (fun _ _ _ h => h) (yk_bin (by kernel_rfl) _ _ _ _ _ rfl (.agg #[.int .i64 q, .string s, .string k, .string d, .int .u64 (limb n 0), .int .u64 (limb n 1), .int .u64 (limb n 2), .int .u64 (limb n 3), .string f, .string g, .int .i64 h, .int .i64 t]) (.agg #[.int .i64 q, .string s, .string k, .string d, .int .u64 (limb n 0), .int .u64 (limb n 1), .int .u64 (limb n 2), .int .u64 (limb n 3), .string f, .string g, .int .i64 h, .int .i64 t]) (by kernel_rfl) (by kernel_rfl) _ (fun w' hw' => by have h0 := heq w'; go_simp)) hH2 ?_
          refine wpAnyH_take (i := 16) (v := .bool false) rfl (by kernel_rfl) (by kernel_rfl) (by kernel_rfl) (fun _ _ _ h => h) (yk_move (by kernel_rfl) _ rfl _ (by kernel_rfl)) hH2 ?_
          refine wpAnyH_take (i := 17) (v := .agg #[.int .i64 q, .string s, .string k, .string d, .int .u64 (limb n 0), .int .u64 (limb n 1), .int .u64 (limb n 2), .int .u64 (limb n 3), .string f, .string g, .int .i64 h, .int .i64 t]) rfl (by kernel_rfl) (by kernel_rfl) (by kernel_rfl) (fun _ _ _ h => h) (yk_load (by kernel_rfl) _ _ rfl (.pointer (some ⟨w.heap.size, 0, none⟩)) (by kernel_rfl) _ (fun w' hw' => by have c0 := hw'.k1.cell 0; have c1 := hw'.k1.cell 1; have c2 := hw'.k1.cell 2; have c3 := hw'.k1.cell 3; have c4 := hw'.k1.cell 4; have c5 := hw'.k1.cell 5; have c6 := hw'.k1.cell 6; have c7 := hw'.k1.cell 7; have c8 := hw'.k1.cell 8; have c9 := hw'.k1.cell 9; have c10 := hw'.k1.cell 10; have c11 := hw'.k1.cell 11; go_simp)) hH2 ?_
          refine wpAnyH_take (i := 19) (v := .agg #[.int .i64 q, .string s, .string k, .string d, .int .u64 (limb n 0), .int .u64 (limb n 1), .int .u64 (limb n 2), .int .u64 (limb n 3), .string f, .string g, .int .i64 h, .int .i64 t]) rfl (by kernel_rfl) (by kernel_rfl) (by kernel_rfl) (fun _ _ _ h => h) (yk_load (by kernel_rfl) _ _ rfl (.pointer (some ⟨w.heap.size + 1, 0, none⟩)) (by kernel_rfl) _ (fun w' hw' => by have c0 := hw'.k2.cell 0; have c1 := hw'.k2.cell 1; have c2 := hw'.k2.cell 2; have c3 := hw'.k2.cell 3; have c4 := hw'.k2.cell 4; have c5 := hw'.k2.cell 5; have c6 := hw'.k2.cell 6; have c7 := hw'.k2.cell 7; have c8 := hw'.k2.cell 8; have c9 := hw'.k2.cell 9; have c10 := hw'.k2.cell 10; have c11 := hw'.k2.cell 11; go_simp)) hH2 ?_
          refine wpAnyH_ready (rs := [18]) (by kernel_rfl) (by simp) ?_
          refine AllReadyH.cons rfl (fun K hK => ?_) AllReadyH.nil
          go_simp
          go_at_call 18
          refine (commit_any q h t s k d f g n _ (by omega) (by omega) (by omega) (by omega) (by omega) hq hh ht (Lib.hid hH2.hT)).mono ?_
          rintro e w18 ⟨rfl, hd18⟩
          rw [hCC]
          go_wp2_with fail
          refine hK.out _ _ (B2.on hH2 hd18) (fun hH3 => ?_)
          clear hK K
          refine wpAnyH_ready (rs := [20]) (by kernel_rfl) (by simp) ?_
          refine AllReadyH.cons rfl (fun K hK => ?_) AllReadyH.nil
          go_simp
          go_at_call 18
          refine (commit_any q h t s k d f g n _ (by omega) (by omega) (by omega) (by omega) (by omega) hq hh ht (Lib.hid hH3.hT)).mono ?_
          rintro e w20 ⟨rfl, hd20⟩
          rw [hCC]
          go_wp2_with fail
          refine hK.out _ _ (B2.on hH3 hd20) (fun hH4 => ?_)
          clear hK K
          refine wpAnyH_take (i := 21) (v := .bool true) rfl (by kernel_rfl) (by kernel_rfl) (by kernel_rfl) (fun _ _ _ h => h) (yk_bin (by kernel_rfl) _ _ _ _ _ rfl (.string CC) (.string CC) (by kernel_rfl) (by kernel_rfl) _ (fun w' hw' => by go_simp)) hH4 ?_
          refine wpAnyH_take (i := 22) (v := .bool true) rfl (by kernel_rfl) (by kernel_rfl) (by kernel_rfl) (fun _ _ _ h => h) (yk_pick (by kernel_rfl) _ _ _ rfl false (by kernel_rfl) _ (by kernel_rfl)) hH4 ?_
          refine wpAnyH_take (i := 23) (v := .bool true) rfl (by kernel_rfl) (by kernel_rfl) (by kernel_rfl) (fun _ _ _ h => h) (yk_pick (by kernel_rfl) _ _ _ rfl true (by kernel_rfl) _ (by kernel_rfl)) hH4 ?_
          refine wpAnyH_take (i := 24) (v := .bool true) rfl (by kernel_rfl) (by kernel_rfl) (by kernel_rfl) (fun _ _ _ h => h) (yk_assign (by kernel_rfl) _ rfl _ (by kernel_rfl)) hH4 ?_
          refine wpAnyH_done (by kernel_rfl) ?_ _
          have hbf := hH4.hb
          go_wp2_with fail
          go_ret
          exact ⟨by kernel_rfl, hbf⟩
        · have Hne := Lib.hid hE
          have hneB : Hid (¬ pkB q h t (bysN s) (bysN k) (bysN d) n (bysN f) (bysN g) = pkB q' h' t' (bysN s') (bysN k') (bysN d') n' (bysN f') (bysN g')) := Lib.hid (fun e => Hne.out (pk_inj (by rw [bysN_len]; omega) (by rw [bysN_len]; omega) (by rw [bysN_len]; omega) (by rw [bysN_len]; omega) (by rw [bysN_len]; omega) (by rw [bysN_len]; omega) (by rw [bysN_len]; omega) (by rw [bysN_len]; omega) (by rw [bysN_len]; omega) (by rw [bysN_len]; omega) hq hh ht hq' hh' ht' Hn.out Hn'.out Hok1.out Hok2.out e))
          clear hE
          go_wp2_with (go_at_call 13; refine (check13_any q h t s k d f g n _ (by omega) (by omega) (by omega) (by omega) (by omega) Hn.out).mono ?_)
          rintro e w8 ⟨rfl, hb8⟩
          rw [Hok1.out]
          replace r1 := r1.on hb8
          replace r2 := r2.on hb8
          replace rb := BW_on rb hb8
          have cs1 := (fun i => r1.cell i)
          have cs2 := (fun i => r2.cell i)
          clear hb8
          go_wp2_with (go_at_call 13; refine (check13_any q' h' t' s' k' d' f' g' n' _ (by omega) (by omega) (by omega) (by omega) (by omega) Hn'.out).mono ?_)
          rintro e w8 ⟨rfl, hb8⟩
          rw [Hok2.out]
          replace r1 := r1.on hb8
          replace r2 := r2.on hb8
          replace rb := BW_on rb hb8
          have cs1 := (fun i => r1.cell i)
          have cs2 := (fun i => r2.cell i)
          clear hb8
          go_upto_region 8 with (fail)
          have hneq := fun w => eqPkt_no Hn.out Hn'.out Hne.out w
          refine wp_region_held_drew (S := B2 w w.heap.size (w.heap.size + 1) #[.int .i64 q, .string s, .string k, .string d, .int .u64 (limb n 0), .int .u64 (limb n 1), .int .u64 (limb n 2), .int .u64 (limb n 3), .string f, .string g, .int .i64 h, .int .i64 t] #[.int .i64 q', .string s', .string k', .string d', .int .u64 (limb n' 0), .int .u64 (limb n' 1), .int .u64 (limb n' 2), .int .u64 (limb n' 3), .string f', .string g', .int .i64 h', .int .i64 t']) (by kernel_rfl) (B2.drew ⟨r1, r2, rb, hT.out.on rb⟩) (fun hH0 => ?_)
          refine wpAnyH_take (i := 0) (v := .bool true) rfl (by kernel_rfl) (by kernel_rfl) (by kernel_rfl) (fun _ _ _ h => h) (yk_move (by kernel_rfl) _ rfl _ (by kernel_rfl)) hH0 ?_
          refine wpAnyH_take (i := 1) (v := .bool true) rfl (by kernel_rfl) (by kernel_rfl) (by kernel_rfl) (fun _ _ _ h => h) (yk_move (by kernel_rfl) _ rfl _ (by kernel_rfl)) hH0 ?_
          refine wpAnyH_take (i := 2) (v := .agg #[.int .i64 q, .string s, .string k, .string d, .int .u64 (limb n 0), .int .u64 (limb n 1), .int .u64 (limb n 2), .int .u64 (limb n 3), .string f, .string g, .int .i64 h, .int .i64 t]) rfl (by kernel_rfl) (by kernel_rfl) (by kernel_rfl) (fun _ _ _ h => h) (yk_load (by kernel_rfl) _ _ rfl (.pointer (some ⟨w.heap.size, 0, none⟩)) (by kernel_rfl) _ (fun w' hw' => by have c0 := hw'.k1.cell 0; have c1 := hw'.k1.cell 1; have c2 := hw'.k1.cell 2; have c3 := hw'.k1.cell 3; have c4 := hw'.k1.cell 4; have c5 := hw'.k1.cell 5; have c6 := hw'.k1.cell 6; have c7 := hw'.k1.cell 7; have c8 := hw'.k1.cell 8; have c9 := hw'.k1.cell 9; have c10 := hw'.k1.cell 10; have c11 := hw'.k1.cell 11; go_simp)) hH0 ?_
          refine wpAnyH_take (i := 4) (v := .agg #[.int .i64 q', .string s', .string k', .string d', .int .u64 (limb n' 0), .int .u64 (limb n' 1), .int .u64 (limb n' 2), .int .u64 (limb n' 3), .string f', .string g', .int .i64 h', .int .i64 t']) rfl (by kernel_rfl) (by kernel_rfl) (by kernel_rfl) (fun _ _ _ h => h) (yk_load (by kernel_rfl) _ _ rfl (.pointer (some ⟨w.heap.size + 1, 0, none⟩)) (by kernel_rfl) _ (fun w' hw' => by have c0 := hw'.k2.cell 0; have c1 := hw'.k2.cell 1; have c2 := hw'.k2.cell 2; have c3 := hw'.k2.cell 3; have c4 := hw'.k2.cell 4; have c5 := hw'.k2.cell 5; have c6 := hw'.k2.cell 6; have c7 := hw'.k2.cell 7; have c8 := hw'.k2.cell 8; have c9 := hw'.k2.cell 9; have c10 := hw'.k2.cell 10; have c11 := hw'.k2.cell 11; go_simp)) hH0 ?_
          refine wpAnyH_take (i := 7) (v := .agg #[.int .i64 q, .string s, .string k, .string d, .int .u64 (limb n 0), .int .u64 (limb n 1), .int .u64 (limb n 2), .int .u64 (limb n 3), .string f, .string g, .int .i64 h, .int .i64 t]) rfl (by kernel_rfl) (by kernel_rfl) (by kernel_rfl) (fun _ _ _ h => h) (yk_load (by kernel_rfl) _ _ rfl (.pointer (some ⟨w.heap.size, 0, none⟩)) (by kernel_rfl) _ (fun w' hw' => by have c0 := hw'.k1.cell 0; have c1 := hw'.k1.cell 1; have c2 := hw'.k1.cell 2; have c3 := hw'.k1.cell 3; have c4 := hw'.k1.cell 4; have c5 := hw'.k1.cell 5; have c6 := hw'.k1.cell 6; have c7 := hw'.k1.cell 7; have c8 := hw'.k1.cell 8; have c9 := hw'.k1.cell 9; have c10 := hw'.k1.cell 10; have c11 := hw'.k1.cell 11; go_simp)) hH0 ?_
          refine wpAnyH_take (i := 8) (v := .agg #[.int .i64 q', .string s', .string k', .string d', .int .u64 (limb n' 0), .int .u64 (limb n' 1), .int .u64 (limb n' 2), .int .u64 (limb n' 3), .string f', .string g', .int .i64 h', .int .i64 t']) rfl (by kernel_rfl) (by kernel_rfl) (by kernel_rfl) (fun _ _ _ h => h) (yk_load (by kernel_rfl) _ _ rfl (.pointer (some ⟨w.heap.size + 1, 0, none⟩)) (by kernel_rfl) _ (fun w' hw' => by have c0 := hw'.k2.cell 0; have c1 := hw'.k2.cell 1; have c2 := hw'.k2.cell 2; have c3 := hw'.k2.cell 3; have c4 := hw'.k2.cell 4; have c5 := hw'.k2.cell 5; have c6 := hw'.k2.cell 6; have c7 := hw'.k2.cell 7; have c8 := hw'.k2.cell 8; have c9 := hw'.k2.cell 9; have c10 := hw'.k2.cell 10; have c11 := hw'.k2.cell 11; go_simp)) hH0 ?_
          refine wpAnyH_take (i := 9) (v := .bool false) rfl (by kernel_rfl) (by kernel_rfl) (by kernel_rfl) (fun _ _ _ h => h) (yk_bin (by kernel_rfl) _ _ _ _ _ rfl (.agg #[.int .i64 q, .string s, .string k, .string d, .int .u64 (limb n 0), .int .u64 (limb n 1), .int .u64 (limb n 2), .int .u64 (limb n 3), .string f, .string g, .int .i64 h, .int .i64 t]) (.agg #[.int .i64 q', .string s', .string k', .string d', .int .u64 (limb n' 0), .int .u64 (limb n' 1), .int .u64 (limb n' 2), .int .u64 (limb n' 3), .string f', .string g', .int .i64 h', .int .i64 t']) (by kernel_rfl) (by kernel_rfl) _ (fun w' hw' => by have h0 := hneq w'; go_simp)) hH0 ?_
          refine wpAnyH_ready (rs := [3]) (by kernel_rfl) (by simp) ?_
          refine AllReadyH.cons rfl (fun K hK => ?_) AllReadyH.nil
          go_simp
          go_at_call 12
          refine (pkbytes_any q h t s k d f g n _ (by omega) (by omega) (by omega) (by omega) (by omega) hq hh ht).mono ?_
          rintro e w3 ⟨u, rfl, hu, hd3⟩
          go_wp2_with fail
          refine hK.out _ _ (B2.on hH0 hd3) (fun hH1 => ?_)
          clear hK K
          refine wpAnyH_ready (rs := [5]) (by kernel_rfl) (by simp) ?_
          refine AllReadyH.cons rfl (fun K hK => ?_) AllReadyH.nil
          go_simp
          go_at_call 12
          refine (pkbytes_any q' h' t' s' k' d' f' g' n' _ (by omega) (by omega) (by omega) (by omega) (by omega) hq' hh' ht').mono ?_
          rintro e w5 ⟨u2, rfl, hu2, hd5⟩
          have hbq : (u.toList == u2.toList) = false := by rw [toList_beq, hu, hu2]; exact decide_eq_false hneB.out
          go_wp2_with fail
          refine hK.out _ _ (B2.on hH1 hd5) (fun hH2 => ?_)
          clear hK K
          refine wpAnyH_take (i := 6) (v := .bool false) rfl (by kernel_rfl) (by kernel_rfl) (by kernel_rfl) (fun _ _ _ h => h) (yk_bin (by kernel_rfl) _ _ _ _ _ rfl (.string u) (.string u2) (by kernel_rfl) (by kernel_rfl) _ (fun w' hw' => by have h0 := hbq; go_simp)) hH2 ?_
          refine wpAnyH_take (i := 10) (v := .bool true) rfl (by kernel_rfl) (by kernel_rfl) (by kernel_rfl) (fun _ _ _ h => h) (yk_bin (by kernel_rfl) _ _ _ _ _ rfl (.bool false) (.bool false) (by kernel_rfl) (by kernel_rfl) _ (fun w' hw' => by go_simp)) hH2 ?_
          refine wpAnyH_take (i := 11) (v := .bool true) rfl (by kernel_rfl) (by kernel_rfl) (by kernel_rfl) (fun _ _ _ h => h) (yk_pick (by kernel_rfl) _ _ _ rfl true (by kernel_rfl) _ (by kernel_rfl)) hH2 ?_
          refine wpAnyH_take (i := 12) (v := .bool true) rfl (by kernel_rfl) (by kernel_rfl) (by kernel_rfl) (fun _ _ _ h => h) (yk_move (by kernel_rfl) _ rfl _ (by kernel_rfl)) hH2 ?_
          refine wpAnyH_take (i := 13) (v := .agg #[.int .i64 q, .string s, .string k, .string d, .int .u64 (limb n 0), .int .u64 (limb n 1), .int .u64 (limb n 2), .int .u64 (limb n 3), .string f, .string g, .int .i64 h, .int .i64 t]) rfl (by kernel_rfl) (by kernel_rfl) (by kernel_rfl) (fun _ _ _ h => h) (yk_load (by kernel_rfl) _ _ rfl (.pointer (some ⟨w.heap.size, 0, none⟩)) (by kernel_rfl) _ (fun w' hw' => by have c0 := hw'.k1.cell 0; have c1 := hw'.k1.cell 1; have c2 := hw'.k1.cell 2; have c3 := hw'.k1.cell 3; have c4 := hw'.k1.cell 4; have c5 := hw'.k1.cell 5; have c6 := hw'.k1.cell 6; have c7 := hw'.k1.cell 7; have c8 := hw'.k1.cell 8; have c9 := hw'.k1.cell 9; have c10 := hw'.k1.cell 10; have c11 := hw'.k1.cell 11; go_simp)) hH2 ?_
          refine wpAnyH_take (i := 14) (v := .agg #[.int .i64 q', .string s', .string k', .string d', .int .u64 (limb n' 0), .int .u64 (limb n' 1), .int .u64 (limb n' 2), .int .u64 (limb n' 3), .string f', .string g', .int .i64 h', .int .i64 t']) rfl (by kernel_rfl) (by kernel_rfl) (by kernel_rfl) (fun _ _ _ h => h) (yk_load (by kernel_rfl) _ _ rfl (.pointer (some ⟨w.heap.size + 1, 0, none⟩)) (by kernel_rfl) _ (fun w' hw' => by have c0 := hw'.k2.cell 0; have c1 := hw'.k2.cell 1; have c2 := hw'.k2.cell 2; have c3 := hw'.k2.cell 3; have c4 := hw'.k2.cell 4; have c5 := hw'.k2.cell 5; have c6 := hw'.k2.cell 6; have c7 := hw'.k2.cell 7; have c8 := hw'.k2.cell 8; have c9 := hw'.k2.cell 9; have c10 := hw'.k2.cell 10; have c11 := hw'.k2.cell 11; go_simp)) hH2 ?_
          refine wpAnyH_take (i := 15) (v := .bool true) rfl (by kernel_rfl) (by kernel_rfl) (by kernel_rfl) (fun _ _ _ h => h) (yk_bin (by kernel_rfl) _ _ _ _ _ rfl (.agg #[.int .i64 q, .string s, .string k, .string d, .int .u64 (limb n 0), .int .u64 (limb n 1), .int .u64 (limb n 2), .int .u64 (limb n 3), .string f, .string g, .int .i64 h, .int .i64 t]) (.agg #[.int .i64 q', .string s', .string k', .string d', .int .u64 (limb n' 0), .int .u64 (limb n' 1), .int .u64 (limb n' 2), .int .u64 (limb n' 3), .string f', .string g', .int .i64 h', .int .i64 t']) (by kernel_rfl) (by kernel_rfl) _ (fun w' hw' => by have h0 := hneq w'; go_simp)) hH2 ?_
          refine wpAnyH_take (i := 16) (v := .bool true) rfl (by kernel_rfl) (by kernel_rfl) (by kernel_rfl) (fun _ _ _ h => h) (yk_move (by kernel_rfl) _ rfl _ (by kernel_rfl)) hH2 ?_
          refine wpAnyH_take (i := 17) (v := undef) rfl (by kernel_rfl) (by kernel_rfl) (by kernel_rfl) (fun _ _ _ h => h) (yk_skip (by kernel_rfl)) hH2 ?_
          refine wpAnyH_take (i := 18) (v := undef) rfl (by kernel_rfl) (by kernel_rfl) (by kernel_rfl) (fun _ _ _ h => h) (yk_skip (by kernel_rfl)) hH2 ?_
          refine wpAnyH_take (i := 19) (v := undef) rfl (by kernel_rfl) (by kernel_rfl) (by kernel_rfl) (fun _ _ _ h => h) (yk_skip (by kernel_rfl)) hH2 ?_
          refine wpAnyH_take (i := 20) (v := undef) rfl (by kernel_rfl) (by kernel_rfl) (by kernel_rfl) (fun _ _ _ h => h) (yk_skip (by kernel_rfl)) hH2 ?_
          refine wpAnyH_take (i := 21) (v := undef) rfl (by kernel_rfl) (by kernel_rfl) (by kernel_rfl) (fun _ _ _ h => h) (yk_skip (by kernel_rfl)) hH2 ?_
          refine wpAnyH_take (i := 22) (v := (.bool true)) rfl (by kernel_rfl) (by kernel_rfl) (by kernel_rfl) (fun _ _ _ h => h) (yk_pick (by kernel_rfl) _ _ _ rfl true (by kernel_rfl) _ (by kernel_rfl)) hH2 ?_
          refine wpAnyH_take (i := 23) (v := (.bool true)) rfl (by kernel_rfl) (by kernel_rfl) (by kernel_rfl) (fun _ _ _ h => h) (yk_pick (by kernel_rfl) _ _ _ rfl true (by kernel_rfl) _ (by kernel_rfl)) hH2 ?_
          refine wpAnyH_take (i := 24) (v := (.bool true)) rfl (by kernel_rfl) (by kernel_rfl) (by kernel_rfl) (fun _ _ _ h => h) (yk_assign (by kernel_rfl) _ rfl _ (by kernel_rfl)) hH2 ?_
          refine wpAnyH_done (by kernel_rfl) ?_ _
          have hbf := hH2.hb
          go_wp2_with fail
          go_ret
          exact ⟨by kernel_rfl, hbf⟩
  · have z2 := r2.store12 (.int .i64 q) (.string s) (.string k) (.string d) (.int .u64 (limb n 0)) (.int .u64 (limb n 1)) (.int .u64 (limb n 2)) (.int .u64 (limb n 3)) (.string f) (.string g) (.int .i64 h) (.int .i64 t)
    have z1 := r1.far12 hne1 (.int .i64 q) (.string s) (.string k) (.string d) (.int .u64 (limb n 0)) (.int .u64 (limb n 1)) (.int .u64 (limb n 2)) (.int .u64 (limb n 3)) (.string f) (.string g) (.int .i64 h) (.int .i64 t)
    have zb := below_store12 rb (by omega : w.heap.size ≤ w.heap.size + 1) (.int .i64 q) (.string s) (.string k) (.string d) (.int .u64 (limb n 0)) (.int .u64 (limb n 1)) (.int .u64 (limb n 2)) (.int .u64 (limb n 3)) (.string f) (.string g) (.int .i64 h) (.int .i64 t)
    go_upto_region 6 with (fail)
    change Code.wp _ _ _ _ ((((((((((((W.setCell ⟨w.heap.size + 1, 0, none⟩ (.int .i64 q)).setCell ⟨w.heap.size + 1, 1, none⟩ (.string s)).setCell ⟨w.heap.size + 1, 2, none⟩ (.string k)).setCell ⟨w.heap.size + 1, 3, none⟩ (.string d)).setCell ⟨w.heap.size + 1, 4, none⟩ (.int .u64 (limb n 0))).setCell ⟨w.heap.size + 1, 5, none⟩ (.int .u64 (limb n 1))).setCell ⟨w.heap.size + 1, 6, none⟩ (.int .u64 (limb n 2))).setCell ⟨w.heap.size + 1, 7, none⟩ (.int .u64 (limb n 3))).setCell ⟨w.heap.size + 1, 8, none⟩ (.string f)).setCell ⟨w.heap.size + 1, 9, none⟩ (.string g)).setCell ⟨w.heap.size + 1, 10, none⟩ (.int .i64 h)).setCell ⟨w.heap.size + 1, 11, none⟩ (.int .i64 t))
    generalize (((((((((((W.setCell ⟨w.heap.size + 1, 0, none⟩ (.int .i64 q)).setCell ⟨w.heap.size + 1, 1, none⟩ (.string s)).setCell ⟨w.heap.size + 1, 2, none⟩ (.string k)).setCell ⟨w.heap.size + 1, 3, none⟩ (.string d)).setCell ⟨w.heap.size + 1, 4, none⟩ (.int .u64 (limb n 0))).setCell ⟨w.heap.size + 1, 5, none⟩ (.int .u64 (limb n 1))).setCell ⟨w.heap.size + 1, 6, none⟩ (.int .u64 (limb n 2))).setCell ⟨w.heap.size + 1, 7, none⟩ (.int .u64 (limb n 3))).setCell ⟨w.heap.size + 1, 8, none⟩ (.string f)).setCell ⟨w.heap.size + 1, 9, none⟩ (.string g)).setCell ⟨w.heap.size + 1, 10, none⟩ (.int .i64 h)).setCell ⟨w.heap.size + 1, 11, none⟩ (.int .i64 t) = W2 at *
    clear r1 r2 rb cr1 cr2 fr2
    have r1 := z1
    have r2 := z2
    have rb := zb
    clear z1 z2 zb
    have cr1 := fun i => r1.cell i
    have cr2 := fun i => r2.cell i
    cases ok1
    · go_wp2_with (go_at_call 13; first | (have := fl8; refine (check13_any q h t s k d f g n _ (by omega) (by omega) (by omega) (by omega) (by omega) Hn.out).mono ?_; rintro e w8 ⟨rfl, hb8⟩; rw [Hok1.out]; replace r1 := r1.on hb8; replace r2 := r2.on hb8; replace rb := BW_on rb hb8; have cs1 := (fun i => r1.cell i); have cs2 := (fun i => r2.cell i); clear hb8) | (refine (check13_any q h t s k d f g n _ (by omega) (by omega) (by omega) (by omega) (by omega) Hn.out).mono ?_; rintro e w8 ⟨rfl, hb8⟩; rw [Hok1.out]; replace r1 := r1.on hb8; replace r2 := r2.on hb8; replace rb := BW_on rb hb8; have cs1 := (fun i => r1.cell i); have cs2 := (fun i => r2.cell i); clear hb8; have fl8 := True.intro))
      go_ret
      exact ⟨rfl, rb⟩
    · go_wp2_with (go_at_call 13; refine (check13_any q h t s k d f g n _ (by omega) (by omega) (by omega) (by omega) (by omega) Hn.out).mono ?_)
      rintro e w8 ⟨rfl, hb8⟩
      rw [Hok1.out]
      replace r1 := r1.on hb8
      replace r2 := r2.on hb8
      replace rb := BW_on rb hb8
      have cs1 := (fun i => r1.cell i)
      have cs2 := (fun i => r2.cell i)
      clear hb8
      go_wp2_with (go_at_call 13; refine (check13_any q h t s k d f g n _ (by omega) (by omega) (by omega) (by omega) (by omega) Hn.out).mono ?_)
      rintro e w8 ⟨rfl, hb8⟩
      rw [Hok1.out]
      replace r1 := r1.on hb8
      replace r2 := r2.on hb8
      replace rb := BW_on rb hb8
      have cs1 := (fun i => r1.cell i)
      have cs2 := (fun i => r2.cell i)
      clear hb8
      go_upto_region 8 with (fail)
      have heq := eqPkt_refl q h t (limb n 0) (limb n 1) (limb n 2) (limb n 3) s k d f g
      obtain ⟨CC, hCC⟩ : ∃ CC, byt (sha (80 :: pkB q h t (bysN s) (bysN k) (bysN d) n (bysN f) (bysN g))) = CC := ⟨_, rfl⟩
      refine wp_region_held_drew (S := B2 w w.heap.size (w.heap.size + 1) #[.int .i64 q, .string s, .string k, .string d, .int .u64 (limb n 0), .int .u64 (limb n 1), .int .u64 (limb n 2), .int .u64 (limb n 3), .string f, .string g, .int .i64 h, .int .i64 t] #[.int .i64 q, .string s, .string k, .string d, .int .u64 (limb n 0), .int .u64 (limb n 1), .int .u64 (limb n 2), .int .u64 (limb n 3), .string f, .string g, .int .i64 h, .int .i64 t]) (by kernel_rfl) (B2.drew ⟨r1, r2, rb, hT.out.on rb⟩) (fun hH0 => ?_)
      refine wpAnyH_take (i := 0) (v := .bool true) rfl (by kernel_rfl) (by kernel_rfl) (by kernel_rfl) (fun _ _ _ h => h) (yk_move (by kernel_rfl) _ rfl _ (by kernel_rfl)) hH0 ?_
      refine wpAnyH_take (i := 1) (v := .bool true) rfl (by kernel_rfl) (by kernel_rfl) (by kernel_rfl) (fun _ _ _ h => h) (yk_move (by kernel_rfl) _ rfl _ (by kernel_rfl)) hH0 ?_
      refine wpAnyH_take (i := 2) (v := .agg #[.int .i64 q, .string s, .string k, .string d, .int .u64 (limb n 0), .int .u64 (limb n 1), .int .u64 (limb n 2), .int .u64 (limb n 3), .string f, .string g, .int .i64 h, .int .i64 t]) rfl (by kernel_rfl) (by kernel_rfl) (by kernel_rfl) (fun _ _ _ h => h) (yk_load (by kernel_rfl) _ _ rfl (.pointer (some ⟨w.heap.size, 0, none⟩)) (by kernel_rfl) _ (fun w' hw' => by have c0 := hw'.k1.cell 0; have c1 := hw'.k1.cell 1; have c2 := hw'.k1.cell 2; have c3 := hw'.k1.cell 3; have c4 := hw'.k1.cell 4; have c5 := hw'.k1.cell 5; have c6 := hw'.k1.cell 6; have c7 := hw'.k1.cell 7; have c8 := hw'.k1.cell 8; have c9 := hw'.k1.cell 9; have c10 := hw'.k1.cell 10; have c11 := hw'.k1.cell 11; go_simp)) hH0 ?_
      refine wpAnyH_take (i := 4) (v := .agg #[.int .i64 q, .string s, .string k, .string d, .int .u64 (limb n 0), .int .u64 (limb n 1), .int .u64 (limb n 2), .int .u64 (limb n 3), .string f, .string g, .int .i64 h, .int .i64 t]) rfl (by kernel_rfl) (by kernel_rfl) (by kernel_rfl) (fun _ _ _ h => h) (yk_load (by kernel_rfl) _ _ rfl (.pointer (some ⟨w.heap.size + 1, 0, none⟩)) (by kernel_rfl) _ (fun w' hw' => by have c0 := hw'.k2.cell 0; have c1 := hw'.k2.cell 1; have c2 := hw'.k2.cell 2; have c3 := hw'.k2.cell 3; have c4 := hw'.k2.cell 4; have c5 := hw'.k2.cell 5; have c6 := hw'.k2.cell 6; have c7 := hw'.k2.cell 7; have c8 := hw'.k2.cell 8; have c9 := hw'.k2.cell 9; have c10 := hw'.k2.cell 10; have c11 := hw'.k2.cell 11; go_simp)) hH0 ?_
      refine wpAnyH_take (i := 7) (v := .agg #[.int .i64 q, .string s, .string k, .string d, .int .u64 (limb n 0), .int .u64 (limb n 1), .int .u64 (limb n 2), .int .u64 (limb n 3), .string f, .string g, .int .i64 h, .int .i64 t]) rfl (by kernel_rfl) (by kernel_rfl) (by kernel_rfl) (fun _ _ _ h => h) (yk_load (by kernel_rfl) _ _ rfl (.pointer (some ⟨w.heap.size, 0, none⟩)) (by kernel_rfl) _ (fun w' hw' => by have c0 := hw'.k1.cell 0; have c1 := hw'.k1.cell 1; have c2 := hw'.k1.cell 2; have c3 := hw'.k1.cell 3; have c4 := hw'.k1.cell 4; have c5 := hw'.k1.cell 5; have c6 := hw'.k1.cell 6; have c7 := hw'.k1.cell 7; have c8 := hw'.k1.cell 8; have c9 := hw'.k1.cell 9; have c10 := hw'.k1.cell 10; have c11 := hw'.k1.cell 11; go_simp)) hH0 ?_
      refine wpAnyH_take (i := 8) (v := .agg #[.int .i64 q, .string s, .string k, .string d, .int .u64 (limb n 0), .int .u64 (limb n 1), .int .u64 (limb n 2), .int .u64 (limb n 3), .string f, .string g, .int .i64 h, .int .i64 t]) rfl (by kernel_rfl) (by kernel_rfl) (by kernel_rfl) (fun _ _ _ h => h) (yk_load (by kernel_rfl) _ _ rfl (.pointer (some ⟨w.heap.size + 1, 0, none⟩)) (by kernel_rfl) _ (fun w' hw' => by have c0 := hw'.k2.cell 0; have c1 := hw'.k2.cell 1; have c2 := hw'.k2.cell 2; have c3 := hw'.k2.cell 3; have c4 := hw'.k2.cell 4; have c5 := hw'.k2.cell 5; have c6 := hw'.k2.cell 6; have c7 := hw'.k2.cell 7; have c8 := hw'.k2.cell 8; have c9 := hw'.k2.cell 9; have c10 := hw'.k2.cell 10; have c11 := hw'.k2.cell 11; go_simp)) hH0 ?_
      refine wpAnyH_take (i := 9) (v := .bool true) rfl (by kernel_rfl) (by kernel_rfl) (by kernel_rfl) (fun _ _ _ h => h) (yk_bin (by kernel_rfl) _ _ _ _ _ rfl (.agg #[.int .i64 q, .string s, .string k, .string d, .int .u64 (limb n 0), .int .u64 (limb n 1), .int .u64 (limb n 2), .int .u64 (limb n 3), .string f, .string g, .int .i64 h, .int .i64 t]) (.agg #[.int .i64 q, .string s, .string k, .string d, .int .u64 (limb n 0), .int .u64 (limb n 1), .int .u64 (limb n 2), .int .u64 (limb n 3), .string f, .string g, .int .i64 h, .int .i64 t]) (by kernel_rfl) (by kernel_rfl) _ (fun w' hw' => by have h0 := heq w'; go_simp)) hH0 ?_
      refine wpAnyH_ready (rs := [3]) (by kernel_rfl) (by simp) ?_
      refine AllReadyH.cons rfl (fun K hK => ?_) AllReadyH.nil
      go_simp
      go_at_call 12
      refine (pkbytes_any q h t s k d f g n _ (by omega) (by omega) (by omega) (by omega) (by omega) hq hh ht).mono ?_
      rintro e w3 ⟨u, rfl, hu, hd3⟩
      go_wp2_with fail
      refine hK.out _ _ (B2.on hH0 hd3) (fun hH1 => ?_)
      clear hK K
      refine wpAnyH_ready (rs := [5]) (by kernel_rfl) (by simp) ?_
      refine AllReadyH.cons rfl (fun K hK => ?_) AllReadyH.nil
      go_simp
      go_at_call 12
      refine (pkbytes_any q h t s k d f g n _ (by omega) (by omega) (by omega) (by omega) (by omega) hq hh ht).mono ?_
      rintro e w5 ⟨u2, rfl, hu2, hd5⟩
      obtain rfl : u = u2 := bysN_inj (hu.trans hu2.symm)
      go_wp2_with fail
      refine hK.out _ _ (B2.on hH1 hd5) (fun hH2 => ?_)
      clear hK K
      refine wpAnyH_take (i := 6) (v := .bool true) rfl (by kernel_rfl) (by kernel_rfl) (by kernel_rfl) (fun _ _ _ h => h) (yk_bin (by kernel_rfl) _ _ _ _ _ rfl (.string u) (.string u) (by kernel_rfl) (by kernel_rfl) _ (fun w' hw' => by go_simp)) hH2 ?_
      refine wpAnyH_take (i := 10) (v := .bool true) rfl (by kernel_rfl) (by kernel_rfl) (by kernel_rfl) (fun _ _ _ h => h) (yk_bin (by kernel_rfl) _ _ _ _ _ rfl (.bool true) (.bool true) (by kernel_rfl) (by kernel_rfl) _ (fun w' hw' => by go_simp)) hH2 ?_
      refine wpAnyH_take (i := 11) (v := .bool true) rfl (by kernel_rfl) (by kernel_rfl) (by kernel_rfl) (fun _ _ _ h => h) (yk_pick (by kernel_rfl) _ _ _ rfl true (by kernel_rfl) _ (by kernel_rfl)) hH2 ?_
      refine wpAnyH_take (i := 12) (v := .bool true) rfl (by kernel_rfl) (by kernel_rfl) (by kernel_rfl) (fun _ _ _ h => h) (yk_move (by kernel_rfl) _ rfl _ (by kernel_rfl)) hH2 ?_
      refine wpAnyH_take (i := 13) (v := .agg #[.int .i64 q, .string s, .string k, .string d, .int .u64 (limb n 0), .int .u64 (limb n 1), .int .u64 (limb n 2), .int .u64 (limb n 3), .string f, .string g, .int .i64 h, .int .i64 t]) rfl (by kernel_rfl) (by kernel_rfl) (by kernel_rfl) (fun _ _ _ h => h) (yk_load (by kernel_rfl) _ _ rfl (.pointer (some ⟨w.heap.size, 0, none⟩)) (by kernel_rfl) _ (fun w' hw' => by have c0 := hw'.k1.cell 0; have c1 := hw'.k1.cell 1; have c2 := hw'.k1.cell 2; have c3 := hw'.k1.cell 3; have c4 := hw'.k1.cell 4; have c5 := hw'.k1.cell 5; have c6 := hw'.k1.cell 6; have c7 := hw'.k1.cell 7; have c8 := hw'.k1.cell 8; have c9 := hw'.k1.cell 9; have c10 := hw'.k1.cell 10; have c11 := hw'.k1.cell 11; go_simp)) hH2 ?_
      refine wpAnyH_take (i := 14) (v := .agg #[.int .i64 q, .string s, .string k, .string d, .int .u64 (limb n 0), .int .u64 (limb n 1), .int .u64 (limb n 2), .int .u64 (limb n 3), .string f, .string g, .int .i64 h, .int .i64 t]) rfl (by kernel_rfl) (by kernel_rfl) (by kernel_rfl) (fun _ _ _ h => h) (yk_load (by kernel_rfl) _ _ rfl (.pointer (some ⟨w.heap.size + 1, 0, none⟩)) (by kernel_rfl) _ (fun w' hw' => by have c0 := hw'.k2.cell 0; have c1 := hw'.k2.cell 1; have c2 := hw'.k2.cell 2; have c3 := hw'.k2.cell 3; have c4 := hw'.k2.cell 4; have c5 := hw'.k2.cell 5; have c6 := hw'.k2.cell 6; have c7 := hw'.k2.cell 7; have c8 := hw'.k2.cell 8; have c9 := hw'.k2.cell 9; have c10 := hw'.k2.cell 10; have c11 := hw'.k2.cell 11; go_simp)) hH2 ?_
      refine wpAnyH_take (i := 15) (v := .bool false) rfl (by kernel_rfl) (by kernel_rfl) (by kernel_rfl) (fun _ _ _ h => h) (yk_bin (by kernel_rfl) _ _ _ _ _ rfl (.agg #[.int .i64 q, .string s, .string k, .string d, .int .u64 (limb n 0), .int .u64 (limb n 1), .int .u64 (limb n 2), .int .u64 (limb n 3), .string f, .string g, .int .i64 h, .int .i64 t]) (.agg #[.int .i64 q, .string s, .string k, .string d, .int .u64 (limb n 0), .int .u64 (limb n 1), .int .u64 (limb n 2), .int .u64 (limb n 3), .string f, .string g, .int .i64 h, .int .i64 t]) (by kernel_rfl) (by kernel_rfl) _ (fun w' hw' => by have h0 := heq w'; go_simp)) hH2 ?_
      refine wpAnyH_take (i := 16) (v := .bool false) rfl (by kernel_rfl) (by kernel_rfl) (by kernel_rfl) (fun _ _ _ h => h) (yk_move (by kernel_rfl) _ rfl _ (by kernel_rfl)) hH2 ?_
      refine wpAnyH_take (i := 17) (v := .agg #[.int .i64 q, .string s, .string k, .string d, .int .u64 (limb n 0), .int .u64 (limb n 1), .int .u64 (limb n 2), .int .u64 (limb n 3), .string f, .string g, .int .i64 h, .int .i64 t]) rfl (by kernel_rfl) (by kernel_rfl) (by kernel_rfl) (fun _ _ _ h => h) (yk_load (by kernel_rfl) _ _ rfl (.pointer (some ⟨w.heap.size, 0, none⟩)) (by kernel_rfl) _ (fun w' hw' => by have c0 := hw'.k1.cell 0; have c1 := hw'.k1.cell 1; have c2 := hw'.k1.cell 2; have c3 := hw'.k1.cell 3; have c4 := hw'.k1.cell 4; have c5 := hw'.k1.cell 5; have c6 := hw'.k1.cell 6; have c7 := hw'.k1.cell 7; have c8 := hw'.k1.cell 8; have c9 := hw'.k1.cell 9; have c10 := hw'.k1.cell 10; have c11 := hw'.k1.cell 11; go_simp)) hH2 ?_
      refine wpAnyH_take (i := 19) (v := .agg #[.int .i64 q, .string s, .string k, .string d, .int .u64 (limb n 0), .int .u64 (limb n 1), .int .u64 (limb n 2), .int .u64 (limb n 3), .string f, .string g, .int .i64 h, .int .i64 t]) rfl (by kernel_rfl) (by kernel_rfl) (by kernel_rfl) (fun _ _ _ h => h) (yk_load (by kernel_rfl) _ _ rfl (.pointer (some ⟨w.heap.size + 1, 0, none⟩)) (by kernel_rfl) _ (fun w' hw' => by have c0 := hw'.k2.cell 0; have c1 := hw'.k2.cell 1; have c2 := hw'.k2.cell 2; have c3 := hw'.k2.cell 3; have c4 := hw'.k2.cell 4; have c5 := hw'.k2.cell 5; have c6 := hw'.k2.cell 6; have c7 := hw'.k2.cell 7; have c8 := hw'.k2.cell 8; have c9 := hw'.k2.cell 9; have c10 := hw'.k2.cell 10; have c11 := hw'.k2.cell 11; go_simp)) hH2 ?_
      refine wpAnyH_ready (rs := [18]) (by kernel_rfl) (by simp) ?_
      refine AllReadyH.cons rfl (fun K hK => ?_) AllReadyH.nil
      go_simp
      go_at_call 18
      refine (commit_any q h t s k d f g n _ (by omega) (by omega) (by omega) (by omega) (by omega) hq hh ht (Lib.hid hH2.hT)).mono ?_
      rintro e w18 ⟨rfl, hd18⟩
      rw [hCC]
      go_wp2_with fail
      refine hK.out _ _ (B2.on hH2 hd18) (fun hH3 => ?_)
      clear hK K
      refine wpAnyH_ready (rs := [20]) (by kernel_rfl) (by simp) ?_
      refine AllReadyH.cons rfl (fun K hK => ?_) AllReadyH.nil
      go_simp
      go_at_call 18
      refine (commit_any q h t s k d f g n _ (by omega) (by omega) (by omega) (by omega) (by omega) hq hh ht (Lib.hid hH3.hT)).mono ?_
      rintro e w20 ⟨rfl, hd20⟩
      rw [hCC]
      go_wp2_with fail
      refine hK.out _ _ (B2.on hH3 hd20) (fun hH4 => ?_)
      clear hK K
      refine wpAnyH_take (i := 21) (v := .bool true) rfl (by kernel_rfl) (by kernel_rfl) (by kernel_rfl) (fun _ _ _ h => h) (yk_bin (by kernel_rfl) _ _ _ _ _ rfl (.string CC) (.string CC) (by kernel_rfl) (by kernel_rfl) _ (fun w' hw' => by go_simp)) hH4 ?_
      refine wpAnyH_take (i := 22) (v := .bool true) rfl (by kernel_rfl) (by kernel_rfl) (by kernel_rfl) (fun _ _ _ h => h) (yk_pick (by kernel_rfl) _ _ _ rfl false (by kernel_rfl) _ (by kernel_rfl)) hH4 ?_
      refine wpAnyH_take (i := 23) (v := .bool true) rfl (by kernel_rfl) (by kernel_rfl) (by kernel_rfl) (fun _ _ _ h => h) (yk_pick (by kernel_rfl) _ _ _ rfl true (by kernel_rfl) _ (by kernel_rfl)) hH4 ?_
      refine wpAnyH_take (i := 24) (v := .bool true) rfl (by kernel_rfl) (by kernel_rfl) (by kernel_rfl) (fun _ _ _ h => h) (yk_assign (by kernel_rfl) _ rfl _ (by kernel_rfl)) hH4 ?_
      refine wpAnyH_done (by kernel_rfl) ?_ _
      have hbf := hH4.hb
      go_wp2_with fail
      go_ret
      exact ⟨by kernel_rfl, hbf⟩
end Go.Proofs.YtbimnfmjgmfijaaDoor

/- Pp, Pu, Pv in one text. -/
import Derived.Test.YtbimnfmjgmfijaaDoorM4
import Derived.Test.YtbimnfmjgmfijaaDoorMW
import Derived.Test.YtbimnfmjgmfijaaDoorYk
import Derived.Test.YtbimnfmjgmfijaaDoorPkA
namespace Go.Proofs.YtbimnfmjgmfijaaDoor
open Go.RowKit
attribute [local go_sem ↓] Go.wp_at_zero Go.wp_at_succ
set_option maxHeartbeats 8000000 in
set_option maxRecDepth 100000 in
theorem r13bytes_any (q h t : Int) (s k d f g : ByteArray) (n : Nat) (w : World) (zs : s.size ≤ 1000000) (zk : k.size ≤ 1000000) (zd : d.size ≤ 1000000) (zf : f.size ≤ 1000000) (zg : g.size ≤ 1000000)
    (hq : q ≤ 9223372036854775807) (hh : h ≤ 9223372036854775807) (ht : t ≤ 9223372036854775807) : Calls Tryd.prog 17 #[.agg #[.int .i64 q, .string s, .string k, .string d, .int .u64 (limb n 0), .int .u64 (limb n 1), .int .u64 (limb n 2), .int .u64 (limb n 3), .string f, .string g, .int .i64 h, .int .i64 t]] w fun e w' => ∃ u, e = .returned (.string u) ∧ bysN u = pkB q h t (bysN s) (bysN k) (bysN d) n (bysN f) (bysN g) ∧ Below w.heap.size w w' := by
  have zam := bys_size n
  have lq := tlvI_len 113 q hq
  have lh := tlvI_len 104 h hh
  have lt := tlvI_len 116 t ht
  have HPK : Hid (pkB q h t (bysN s) (bysN k) (bysN d) n (bysN f) (bysN g) = tlvI 113 q ++ tlvI 104 h ++ tlvI 116 t ++ tlvT 115 (bysN s) ++ tlvT 107 (bysN k) ++ tlvT 100 (bysN d) ++ tlvT 97 (bysN ⟨(bys n).toArray⟩) ++ tlvT 102 (bysN f) ++ tlvT 103 (bysN g)) := Lib.hid rfl
  generalize pkB q h t (bysN s) (bysN k) (bysN d) n (bysN f) (bysN g) = PK at *
  go_enter Tryd.func17, Tryd.ntmps17
  have hS0 : BI w w.heap.size w.heap.size #[.int .i64 q, .string s, .string k, .string d, .int .u64 (limb n 0), .int .u64 (limb n 1), .int .u64 (limb n 2), .int .u64 (limb n 3), .string f, .string g, .int .i64 h, .int .i64 t] #[.string d, .int .u64 (limb n 0), .int .u64 (limb n 1), .int .u64 (limb n 2), .int .u64 (limb n 3), .string f, .string g] (w.alloc (.cells #[.int .i64 q, .string s, .string k, .string d, .int .u64 (limb n 0), .int .u64 (limb n 1), .int .u64 (limb n 2), .int .u64 (limb n 3), .string f, .string g, .int .i64 h, .int .i64 t] 30)) := ⟨blk1 w _ _, .inr rfl, BW_alloc (BW_refl w) _⟩
  go_upto_region 1 with (fail)
  change Code.wp _ _ _ _ (w.alloc (.cells #[.int .i64 q, .string s, .string k, .string d, .int .u64 (limb n 0), .int .u64 (limb n 1), .int .u64 (limb n 2), .int .u64 (limb n 3), .string f, .string g, .int .i64 h, .int .i64 t] 30))
  generalize w.alloc (.cells #[.int .i64 q, .string s, .string k, .string d, .int .u64 (limb n 0), .int .u64 (limb n 1), .int .u64 (limb n 2), .int .u64 (limb n 3), .string f, .string g, .int .i64 h, .int .i64 t] 30) = W at *
  generalize hg1 : w.heap.size = g1 at *
  have Hg1 := Bx9.mk hg1
  clear hg1
  refine wp_region_held_drew (S := BI w g1 g1 #[.int .i64 q, .string s, .string k, .string d, .int .u64 (limb n 0), .int .u64 (limb n 1), .int .u64 (limb n 2), .int .u64 (limb n 3), .string f, .string g, .int .i64 h, .int .i64 t] #[.string d, .int .u64 (limb n 0), .int .u64 (limb n 1), .int .u64 (limb n 2), .int .u64 (limb n 3), .string f, .string g]) (by kernel_rfl) hS0.drew (fun hH0 => ?_)
  refine wpAnyH_take (i := 0) (v := .pointer (some ⟨g1, 0, none⟩)) rfl (by kernel_rfl) (by kernel_rfl) (by kernel_rfl) (fun _ _ _ h => h) (yk_fa (by kernel_rfl) _ _ _ rfl (.pointer (some ⟨g1, 0, none⟩)) (by kernel_rfl) _ (fun w' hw' => by go_simp)) hH0 ?_
  refine wpAnyH_take (i := 1) (v := .int .i64 q) rfl (by kernel_rfl) (by kernel_rfl) (by kernel_rfl) (fun _ _ _ h => h) (yk_load (by kernel_rfl) _ _ rfl (.pointer (some ⟨g1, 0, none⟩)) (by kernel_rfl) _ (fun w' hw' => by have c0 := hw'.k1.cell 0; go_simp)) hH0 ?_
  refine wpAnyH_take (i := 3) (v := .pointer (some ⟨g1, 10, none⟩)) rfl (by kernel_rfl) (by kernel_rfl) (by kernel_rfl) (fun _ _ _ h => h) (yk_fa (by kernel_rfl) _ _ _ rfl (.pointer (some ⟨g1, 0, none⟩)) (by kernel_rfl) _ (fun w' hw' => by go_simp)) hH0 ?_
  refine wpAnyH_take (i := 4) (v := .int .i64 h) rfl (by kernel_rfl) (by kernel_rfl) (by kernel_rfl) (fun _ _ _ h => h) (yk_load (by kernel_rfl) _ _ rfl (.pointer (some ⟨g1, 10, none⟩)) (by kernel_rfl) _ (fun w' hw' => by have c0 := hw'.k1.cell 10; go_simp)) hH0 ?_
  refine wpAnyH_take (i := 7) (v := .pointer (some ⟨g1, 11, none⟩)) rfl (by kernel_rfl) (by kernel_rfl) (by kernel_rfl) (fun _ _ _ h => h) (yk_fa (by kernel_rfl) _ _ _ rfl (.pointer (some ⟨g1, 0, none⟩)) (by kernel_rfl) _ (fun w' hw' => by go_simp)) hH0 ?_
  refine wpAnyH_take (i := 8) (v := .int .i64 t) rfl (by kernel_rfl) (by kernel_rfl) (by kernel_rfl) (fun _ _ _ h => h) (yk_load (by kernel_rfl) _ _ rfl (.pointer (some ⟨g1, 11, none⟩)) (by kernel_rfl) _ (fun w' hw' => by have c0 := hw'.k1.cell 11; go_simp)) hH0 ?_
  refine wpAnyH_take (i := 11) (v := .pointer (some ⟨g1, 1, none⟩)) rfl (by kernel_rfl) (by kernel_rfl) (by kernel_rfl) (fun _ _ _ h => h) (yk_fa (by kernel_rfl) _ _ _ rfl (.pointer (some ⟨g1, 0, none⟩)) (by kernel_rfl) _ (fun w' hw' => by go_simp)) hH0 ?_
  refine wpAnyH_take (i := 12) (v := .string s) rfl (by kernel_rfl) (by kernel_rfl) (by kernel_rfl) (fun _ _ _ h => h) (yk_load (by kernel_rfl) _ _ rfl (.pointer (some ⟨g1, 1, none⟩)) (by kernel_rfl) _ (fun w' hw' => by have c0 := hw'.k1.cell 1; go_simp)) hH0 ?_
  refine wpAnyH_take (i := 15) (v := .pointer (some ⟨g1, 2, none⟩)) rfl (by kernel_rfl) (by kernel_rfl) (by kernel_rfl) (fun _ _ _ h => h) (yk_fa (by kernel_rfl) _ _ _ rfl (.pointer (some ⟨g1, 0, none⟩)) (by kernel_rfl) _ (fun w' hw' => by go_simp)) hH0 ?_
  refine wpAnyH_take (i := 16) (v := .string k) rfl (by kernel_rfl) (by kernel_rfl) (by kernel_rfl) (fun _ _ _ h => h) (yk_load (by kernel_rfl) _ _ rfl (.pointer (some ⟨g1, 2, none⟩)) (by kernel_rfl) _ (fun w' hw' => by have c0 := hw'.k1.cell 2; go_simp)) hH0 ?_
  refine wpAnyH_take (i := 19) (v := .pointer (some ⟨g1, 3, none⟩)) rfl (by kernel_rfl) (by kernel_rfl) (by kernel_rfl) (fun _ _ _ h => h) (yk_fa (by kernel_rfl) _ _ _ rfl (.pointer (some ⟨g1, 0, none⟩)) (by kernel_rfl) _ (fun w' hw' => by go_simp)) hH0 ?_
  refine wpAnyH_take (i := 20) (v := .pointer (some ⟨g1, 3, none⟩)) rfl (by kernel_rfl) (by kernel_rfl) (by kernel_rfl) (fun _ _ _ h => h) (yk_fa (by kernel_rfl) _ _ _ rfl (.pointer (some ⟨g1, 3, none⟩)) (by kernel_rfl) _ (fun w' hw' => by go_simp)) hH0 ?_
  refine wpAnyH_take (i := 21) (v := .string d) rfl (by kernel_rfl) (by kernel_rfl) (by kernel_rfl) (fun _ _ _ h => h) (yk_load (by kernel_rfl) _ _ rfl (.pointer (some ⟨g1, 3, none⟩)) (by kernel_rfl) _ (fun w' hw' => by have c0 := hw'.k1.cell 3; go_simp)) hH0 ?_
  refine wpAnyH_take (i := 24) (v := .pointer (some ⟨g1, 3, none⟩)) rfl (by kernel_rfl) (by kernel_rfl) (by kernel_rfl) (fun _ _ _ h => h) (yk_fa (by kernel_rfl) _ _ _ rfl (.pointer (some ⟨g1, 0, none⟩)) (by kernel_rfl) _ (fun w' hw' => by go_simp)) hH0 ?_
  refine wpAnyH_take (i := 25) (v := .pointer (some ⟨g1, 4, none⟩)) rfl (by kernel_rfl) (by kernel_rfl) (by kernel_rfl) (fun _ _ _ h => h) (yk_fa (by kernel_rfl) _ _ _ rfl (.pointer (some ⟨g1, 3, none⟩)) (by kernel_rfl) _ (fun w' hw' => by go_simp)) hH0 ?_
  refine wpAnyH_take (i := 26) (v := .agg #[.int .u64 (limb n 0), .int .u64 (limb n 1), .int .u64 (limb n 2), .int .u64 (limb n 3)]) rfl (by kernel_rfl) (by kernel_rfl) (by kernel_rfl) (fun _ _ _ h => h) (yk_load (by kernel_rfl) _ _ rfl (.pointer (some ⟨g1, 4, none⟩)) (by kernel_rfl) _ (fun w' hw' => by have c0 := hw'.k1.cell 4; have c1 := hw'.k1.cell 5; have c2 := hw'.k1.cell 6; have c3 := hw'.k1.cell 7; go_simp)) hH0 ?_
  refine wpAnyH_take (i := 30) (v := .pointer (some ⟨g1, 3, none⟩)) rfl (by kernel_rfl) (by kernel_rfl) (by kernel_rfl) (fun _ _ _ h => h) (yk_fa (by kernel_rfl) _ _ _ rfl (.pointer (some ⟨g1, 0, none⟩)) (by kernel_rfl) _ (fun w' hw' => by go_simp)) hH0 ?_
  refine wpAnyH_take (i := 31) (v := .pointer (some ⟨g1, 8, none⟩)) rfl (by kernel_rfl) (by kernel_rfl) (by kernel_rfl) (fun _ _ _ h => h) (yk_fa (by kernel_rfl) _ _ _ rfl (.pointer (some ⟨g1, 3, none⟩)) (by kernel_rfl) _ (fun w' hw' => by go_simp)) hH0 ?_
  refine wpAnyH_take (i := 32) (v := .string f) rfl (by kernel_rfl) (by kernel_rfl) (by kernel_rfl) (fun _ _ _ h => h) (yk_load (by kernel_rfl) _ _ rfl (.pointer (some ⟨g1, 8, none⟩)) (by kernel_rfl) _ (fun w' hw' => by have c0 := hw'.k1.cell 8; go_simp)) hH0 ?_
  refine wpAnyH_take (i := 35) (v := .pointer (some ⟨g1, 3, none⟩)) rfl (by kernel_rfl) (by kernel_rfl) (by kernel_rfl) (fun _ _ _ h => h) (yk_fa (by kernel_rfl) _ _ _ rfl (.pointer (some ⟨g1, 0, none⟩)) (by kernel_rfl) _ (fun w' hw' => by go_simp)) hH0 ?_
  refine wpAnyH_take (i := 36) (v := .pointer (some ⟨g1, 9, none⟩)) rfl (by kernel_rfl) (by kernel_rfl) (by kernel_rfl) (fun _ _ _ h => h) (yk_fa (by kernel_rfl) _ _ _ rfl (.pointer (some ⟨g1, 3, none⟩)) (by kernel_rfl) _ (fun w' hw' => by go_simp)) hH0 ?_
  refine wpAnyH_take (i := 37) (v := .string g) rfl (by kernel_rfl) (by kernel_rfl) (by kernel_rfl) (fun _ _ _ h => h) (yk_load (by kernel_rfl) _ _ rfl (.pointer (some ⟨g1, 9, none⟩)) (by kernel_rfl) _ (fun w' hw' => by have c0 := hw'.k1.cell 9; go_simp)) hH0 ?_
  refine wpAnyH_ready (rs := [2]) (by kernel_rfl) (by simp) ?_
  refine AllReadyH.cons rfl (fun K hK => ?_) AllReadyH.nil
  go_simp
  go_at_call 47
  refine (r1int_any 113 q _ (by decide) hq).mono ?_
  rintro e w2 ⟨tq, rfl, htq, hd2⟩
  have ztq : tq.size ≤ 1000010 := by rw [← bysN_len, htq]; omega
  go_wp2_with fail
  refine hK.out _ _ (BI.on hH0 hd2) (fun hH1 => ?_)
  clear hK K
  refine wpAnyH_ready (rs := [5]) (by kernel_rfl) (by simp) ?_
  refine AllReadyH.cons rfl (fun K hK => ?_) AllReadyH.nil
  go_simp
  go_at_call 47
  refine (r1int_any 104 h _ (by decide) hh).mono ?_
  rintro e w5 ⟨th, rfl, hth, hd5⟩
  have zth : th.size ≤ 1000010 := by rw [← bysN_len, hth]; omega
  go_wp2_with fail
  refine hK.out _ _ (BI.on hH1 hd5) (fun hH2 => ?_)
  clear hK K
  obtain ⟨u1, hu1, au1⟩ := cat_big tq th (by omega)
  have zu1 : u1.size ≤ 2 * 1000010 := by rw [← bysN_len, hu1, List.length_append, bysN_len, bysN_len]; omega
  refine wpAnyH_take (i := 6) (v := .string u1) rfl (by kernel_rfl) (by kernel_rfl) (by kernel_rfl) (fun _ _ _ h => h) (yk_bin (by kernel_rfl) _ _ _ _ _ rfl (.string tq) (.string th) (by kernel_rfl) (by kernel_rfl) _ (fun w' hw' => by have h0 := au1 w'; go_simp)) hH2 ?_
  refine wpAnyH_ready (rs := [9]) (by kernel_rfl) (by simp) ?_
  refine AllReadyH.cons rfl (fun K hK => ?_) AllReadyH.nil
  go_simp
  go_at_call 47
  refine (r1int_any 116 t _ (by decide) ht).mono ?_
  rintro e w9 ⟨tt, rfl, htt, hd9⟩
  have ztt : tt.size ≤ 1000010 := by rw [← bysN_len, htt]; omega
  go_wp2_with fail
  refine hK.out _ _ (BI.on hH2 hd9) (fun hH3 => ?_)
  clear hK K
  obtain ⟨u2, hu2, au2⟩ := cat_big u1 tt (by omega)
  have zu2 : u2.size ≤ 3 * 1000010 := by rw [← bysN_len, hu2, List.length_append, bysN_len, bysN_len]; omega
  refine wpAnyH_take (i := 10) (v := .string u2) rfl (by kernel_rfl) (by kernel_rfl) (by kernel_rfl) (fun _ _ _ h => h) (yk_bin (by kernel_rfl) _ _ _ _ _ rfl (.string u1) (.string tt) (by kernel_rfl) (by kernel_rfl) _ (fun w' hw' => by have h0 := au2 w'; go_simp)) hH3 ?_
  refine wpAnyH_ready (rs := [13]) (by kernel_rfl) (by simp) ?_
  refine AllReadyH.cons rfl (fun K hK => ?_) AllReadyH.nil
  go_simp
  go_at_call 48
  refine (r1text_any 115 s _ (by decide) (by omega)).mono ?_
  rintro e w13 ⟨ts, rfl, hts, hd13⟩
  have zts : ts.size ≤ 1000010 := by rw [← bysN_len, hts, tlvT_len, bysN_len]; omega
  go_wp2_with fail
  refine hK.out _ _ (BI.on hH3 hd13) (fun hH4 => ?_)
  clear hK K
  obtain ⟨u3, hu3, au3⟩ := cat_big u2 ts (by omega)
  have zu3 : u3.size ≤ 4 * 1000010 := by rw [← bysN_len, hu3, List.length_append, bysN_len, bysN_len]; omega
  refine wpAnyH_take (i := 14) (v := .string u3) rfl (by kernel_rfl) (by kernel_rfl) (by kernel_rfl) (fun _ _ _ h => h) (yk_bin (by kernel_rfl) _ _ _ _ _ rfl (.string u2) (.string ts) (by kernel_rfl) (by kernel_rfl) _ (fun w' hw' => by have h0 := au3 w'; go_simp)) hH4 ?_
  refine wpAnyH_ready (rs := [17]) (by kernel_rfl) (by simp) ?_
  refine AllReadyH.cons rfl (fun K hK => ?_) AllReadyH.nil
  go_simp
  go_at_call 48
  refine (r1text_any 107 k _ (by decide) (by omega)).mono ?_
  rintro e w17 ⟨tk, rfl, htk, hd17⟩
  have ztk : tk.size ≤ 1000010 := by rw [← bysN_len, htk, tlvT_len, bysN_len]; omega
  go_wp2_with fail
  refine hK.out _ _ (BI.on hH4 hd17) (fun hH5 => ?_)
  clear hK K
  obtain ⟨u4, hu4, au4⟩ := cat_big u3 tk (by omega)
  have zu4 : u4.size ≤ 5 * 1000010 := by rw [← bysN_len, hu4, List.length_append, bysN_len, bysN_len]; omega
  refine wpAnyH_take (i := 18) (v := .string u4) rfl (by kernel_rfl) (by kernel_rfl) (by kernel_rfl) (fun _ _ _ h => h) (yk_bin (by kernel_rfl) _ _ _ _ _ rfl (.string u3) (.string tk) (by kernel_rfl) (by kernel_rfl) _ (fun w' hw' => by have h0 := au4 w'; go_simp)) hH5 ?_
  refine wpAnyH_ready (rs := [22]) (by kernel_rfl) (by simp) ?_
  refine AllReadyH.cons rfl (fun K hK => ?_) AllReadyH.nil
  go_simp
  go_at_call 48
  refine (r1text_any 100 d _ (by decide) (by omega)).mono ?_
  rintro e w22 ⟨td, rfl, htd, hd22⟩
  have ztd : td.size ≤ 1000010 := by rw [← bysN_len, htd, tlvT_len, bysN_len]; omega
  go_wp2_with fail
  refine hK.out _ _ (BI.on hH5 hd22) (fun hH6 => ?_)
  clear hK K
  obtain ⟨u5, hu5, au5⟩ := cat_big u4 td (by omega)
  have zu5 : u5.size ≤ 6 * 1000010 := by rw [← bysN_len, hu5, List.length_append, bysN_len, bysN_len]; omega
  refine wpAnyH_take (i := 23) (v := .string u5) rfl (by kernel_rfl) (by kernel_rfl) (by kernel_rfl) (fun _ _ _ h => h) (yk_bin (by kernel_rfl) _ _ _ _ _ rfl (.string u4) (.string td) (by kernel_rfl) (by kernel_rfl) _ (fun w' hw' => by have h0 := au5 w'; go_simp)) hH6 ?_
  refine wpAnyH_ready (rs := [27]) (by kernel_rfl) (by simp) ?_
  refine AllReadyH.cons rfl (fun K hK => ?_) AllReadyH.nil
  go_simp
  go_at_call 49
  refine (rbytes_any n _).mono ?_
  rintro e w27 ⟨rfl, hd27⟩
  go_wp2_with fail
  refine hK.out _ _ (BI.on hH6 hd27) (fun hH7 => ?_)
  clear hK K
  refine wpAnyH_ready (rs := [28]) (by kernel_rfl) (by simp) ?_
  refine AllReadyH.cons rfl (fun K hK => ?_) AllReadyH.nil
  go_simp
  go_at_call 48
  refine (r1text_any 97 ⟨(bys n).toArray⟩ _ (by decide) (by omega)).mono ?_
  rintro e w28 ⟨ta, rfl, hta, hd28⟩
  have zta : ta.size ≤ 1000010 := by rw [← bysN_len, hta, tlvT_len, bysN_len]; omega
  go_wp2_with fail
  refine hK.out _ _ (BI.on hH7 hd28) (fun hH8 => ?_)
  clear hK K
  obtain ⟨u6, hu6, au6⟩ := cat_big u5 ta (by omega)
  have zu6 : u6.size ≤ 7 * 1000010 := by rw [← bysN_len, hu6, List.length_append, bysN_len, bysN_len]; omega
  refine wpAnyH_take (i := 29) (v := .string u6) rfl (by kernel_rfl) (by kernel_rfl) (by kernel_rfl) (fun _ _ _ h => h) (yk_bin (by kernel_rfl) _ _ _ _ _ rfl (.string u5) (.string ta) (by kernel_rfl) (by kernel_rfl) _ (fun w' hw' => by have h0 := au6 w'; go_simp)) hH8 ?_
  refine wpAnyH_ready (rs := [33]) (by kernel_rfl) (by simp) ?_
  refine AllReadyH.cons rfl (fun K hK => ?_) AllReadyH.nil
  go_simp
  go_at_call 48
  refine (r1text_any 102 f _ (by decide) (by omega)).mono ?_
  rintro e w33 ⟨tf, rfl, htf, hd33⟩
  have ztf : tf.size ≤ 1000010 := by rw [← bysN_len, htf, tlvT_len, bysN_len]; omega
  go_wp2_with fail
  refine hK.out _ _ (BI.on hH8 hd33) (fun hH9 => ?_)
  clear hK K
  obtain ⟨u7, hu7, au7⟩ := cat_big u6 tf (by omega)
  have zu7 : u7.size ≤ 8 * 1000010 := by rw [← bysN_len, hu7, List.length_append, bysN_len, bysN_len]; omega
  refine wpAnyH_take (i := 34) (v := .string u7) rfl (by kernel_rfl) (by kernel_rfl) (by kernel_rfl) (fun _ _ _ h => h) (yk_bin (by kernel_rfl) _ _ _ _ _ rfl (.string u6) (.string tf) (by kernel_rfl) (by kernel_rfl) _ (fun w' hw' => by have h0 := au7 w'; go_simp)) hH9 ?_
  refine wpAnyH_ready (rs := [38]) (by kernel_rfl) (by simp) ?_
  refine AllReadyH.cons rfl (fun K hK => ?_) AllReadyH.nil
  go_simp
  go_at_call 48
  refine (r1text_any 103 g _ (by decide) (by omega)).mono ?_
  rintro e w38 ⟨tg, rfl, htg, hd38⟩
  have ztg : tg.size ≤ 1000010 := by rw [← bysN_len, htg, tlvT_len, bysN_len]; omega
  go_wp2_with fail
  refine hK.out _ _ (BI.on hH9 hd38) (fun hH10 => ?_)
  clear hK K
  obtain ⟨u8, hu8, au8⟩ := cat_big u7 tg (by omega)
  have zu8 : u8.size ≤ 9 * 1000010 := by rw [← bysN_len, hu8, List.length_append, bysN_len, bysN_len]; omega
  refine wpAnyH_take (i := 39) (v := .string u8) rfl (by kernel_rfl) (by kernel_rfl) (by kernel_rfl) (fun _ _ _ h => h) (yk_bin (by kernel_rfl) _ _ _ _ _ rfl (.string u7) (.string tg) (by kernel_rfl) (by kernel_rfl) _ (fun w' hw' => by have h0 := au8 w'; go_simp)) hH10 ?_
  refine wpAnyH_take (i := 40) (v := .string u8) rfl (by kernel_rfl) (by kernel_rfl) (by kernel_rfl) (fun _ _ _ h => h) (yk_assign (by kernel_rfl) _ rfl _ (by kernel_rfl)) hH10 ?_
  refine wpAnyH_done (by kernel_rfl) ?_ _
  have hbf := hH10.hb
  have HU : Hid (bysN u8 = PK) := Lib.hid (by rw [HPK.out, hu8, hu7, hu6, hu5, hu4, hu3, hu2, hu1, htq, hth, htt, hts, htk, htd, hta, htf, htg])
  skip
  go_wp2_with fail
  go_ret
  exact ⟨_, rfl, HU.out, by first | exact hbf | (rw [Hg1.out]; exact hbf) | (rw [Hg1.out] at hbf; exact hbf)⟩
end Go.Proofs.YtbimnfmjgmfijaaDoor
namespace Go.Proofs.YtbimnfmjgmfijaaDoor
open Go.RowKit
attribute [local go_sem ↓] Go.wp_at_zero Go.wp_at_succ
set_option maxHeartbeats 4000000 in
set_option maxRecDepth 100000 in
theorem commit_any (q h t : Int) (s k d f g : ByteArray) (n : Nat) (w : World) (zs : s.size ≤ 1000) (zk : k.size ≤ 1000) (zd : d.size ≤ 1000) (zf : f.size ≤ 1000) (zg : g.size ≤ 1000) (hq : q ≤ 9223372036854775807) (hh : h ≤ 9223372036854775807) (ht : t ≤ 9223372036854775807) (hT : Hid (Tabs w)) :
    Calls Tryd.prog 18 #[.agg #[.int .i64 q, .string s, .string k, .string d, .int .u64 (limb n 0), .int .u64 (limb n 1), .int .u64 (limb n 2), .int .u64 (limb n 3), .string f, .string g, .int .i64 h, .int .i64 t]] w fun e w' => e = .returned (.string (byt (sha (80 :: pkB q h t (bysN s) (bysN k) (bysN d) n (bysN f) (bysN g))))) ∧ Below w.heap.size w w' := by
  have hpl : Hid ((pkB q h t (bysN s) (bysN k) (bysN d) n (bysN f) (bysN g)).length ≤ 10000) := Lib.hid (pkB_len (by rw [bysN_len]; omega) (by rw [bysN_len]; omega) (by rw [bysN_len]; omega) (by rw [bysN_len]; omega) (by rw [bysN_len]; omega) hq hh ht)
  have hT1 := Lib.hid (hT.out.on (BW_alloc (BW_refl w) (.cells #[.int .i64 q, .string s, .string k, .string d, .int .u64 (limb n 0), .int .u64 (limb n 1), .int .u64 (limb n 2), .int .u64 (limb n 3), .string f, .string g, .int .i64 h, .int .i64 t] 30)))
  have bb := BW_alloc (BW_refl w) (.cells #[.int .i64 q, .string s, .string k, .string d, .int .u64 (limb n 0), .int .u64 (limb n 1), .int .u64 (limb n 2), .int .u64 (limb n 3), .string f, .string g, .int .i64 h, .int .i64 t] 30)
  go_enter Tryd.func18, Tryd.ntmps18
  go_wp2_with (go_at_call 12; refine (pkbytes_any q h t s k d f g n _ (by omega) (by omega) (by omega) (by omega) (by omega) hq hh ht).mono ?_)
  rintro e w1 ⟨u, rfl, hu, hb1⟩
  have Hu := Lib.hid hu
  rw [← hu] at hpl
  have hpl' : u.size ≤ 10000 := by rw [← bysN_len]; exact hpl.out
  replace bb := BW_on bb hb1
  have hT2 := Lib.hid (hT1.out.on hb1)
  have hall : allB [⟨#[80]⟩, u] = 80 :: bysN u := by
    show [80] ++ (bysN u ++ []) = _
    rw [List.append_nil]
    rfl
  clear hu hb1 hpl
  go_wp2_with fail
  refine (hof_any _ [⟨#[80]⟩, u] _ (Lib.hid (strs2 _ _ _)) (Lib.hid (hT2.out.on (BW_alloc (BW_refl _) _))) (by rw [hall, List.length_cons, bysN_len]; omega) (by show 2 ≤ 9223372036854775807; decide)).mono ?_
  rintro e w2 ⟨rfl, hb2⟩
  rw [hall, show shaV (80 :: bysN u) = .agg (U8s (sha (80 :: bysN u))).toArray from rfl]
  have Hsh := Lib.hid (sha_IsH (80 :: bysN u))
  generalize hL : sha (80 :: bysN u) = L at *
  have HL : Hid (L = sha (80 :: pkB q h t (bysN s) (bysN k) (bysN d) n (bysN f) (bysN g))) := Lib.hid (by rw [← hL, Hu.out])
  clear hL hall
  go_wp2_with fail
  refine (text_any L Hsh.out _).mono ?_
  rintro e w3 ⟨rfl, hb3⟩
  have hbf := BW_on (BW_on (BW_alloc bb (.cells #[.string ⟨#[80]⟩, .string u] 9)) hb2) hb3
  go_wp2_with fail
  go_ret
  exact ⟨by rw [← HL.out]; rfl, hbf⟩
set_option maxHeartbeats 4000000 in
set_option maxRecDepth 100000 in
theorem r13commit_any (q h t : Int) (s k d f g : ByteArray) (n : Nat) (w : World) (zs : s.size ≤ 1000) (zk : k.size ≤ 1000) (zd : d.size ≤ 1000) (zf : f.size ≤ 1000) (zg : g.size ≤ 1000) (hq : q ≤ 9223372036854775807) (hh : h ≤ 9223372036854775807) (ht : t ≤ 9223372036854775807) :
    Calls Tryd.prog 19 #[.agg #[.int .i64 q, .string s, .string k, .string d, .int .u64 (limb n 0), .int .u64 (limb n 1), .int .u64 (limb n 2), .int .u64 (limb n 3), .string f, .string g, .int .i64 h, .int .i64 t]] w fun e w' => e = .returned (.string (byt (sha (80 :: pkB q h t (bysN s) (bysN k) (bysN d) n (bysN f) (bysN g))))) ∧ Below w.heap.size w w' := by
  have hpl : Hid ((pkB q h t (bysN s) (bysN k) (bysN d) n (bysN f) (bysN g)).length ≤ 10000) := Lib.hid (pkB_len (by rw [bysN_len]; omega) (by rw [bysN_len]; omega) (by rw [bysN_len]; omega) (by rw [bysN_len]; omega) (by rw [bysN_len]; omega) hq hh ht)
  have bb := BW_alloc (BW_refl w) (.cells #[.int .i64 q, .string s, .string k, .string d, .int .u64 (limb n 0), .int .u64 (limb n 1), .int .u64 (limb n 2), .int .u64 (limb n 3), .string f, .string g, .int .i64 h, .int .i64 t] 30)
  go_enter Tryd.func19, Tryd.ntmps19
  go_wp2_with (go_at_call 17; refine (r13bytes_any q h t s k d f g n _ (by omega) (by omega) (by omega) (by omega) (by omega) hq hh ht).mono ?_)
  rintro e w1 ⟨u, rfl, hu, hb1⟩
  have Hu := Lib.hid hu
  rw [← hu] at hpl
  have hpl' : u.size ≤ 10000 := by rw [← bysN_len]; exact hpl.out
  replace bb := BW_on bb hb1
  obtain ⟨x, hx, hc⟩ := cat2 80 u (by omega)
  have hxs : x.size ≤ 1000001 := by rw [← bysN_len, hx, List.length_cons, bysN_len]; omega
  have Hsh := Lib.hid (sha_IsH (80 :: bysN u))
  have HV : Hid (shaV (bysN x) = .agg (U8s (sha (80 :: bysN u))).toArray) := Lib.hid (by rw [hx]; rfl)
  generalize hL : sha (80 :: bysN u) = L at *
  have HL : Hid (L = sha (80 :: pkB q h t (bysN s) (bysN k) (bysN d) n (bysN f) (bysN g))) := Lib.hid (by rw [← hL, Hu.out])
  clear hx hL hu hb1 hpl
  go_wp2_with fail
  refine (rquick_any x _ (by omega)).mono ?_
  rw [HV.out]
  rintro e w2 ⟨rfl, hb2⟩
  go_wp2_with fail
  refine (rtext_any L Hsh.out _).mono ?_
  rintro e w3 ⟨rfl, hb3⟩
  have hbf := BW_on (BW_on bb hb2) hb3
  go_wp2_with fail
  go_ret
  exact ⟨by rw [← HL.out]; rfl, hbf⟩
end Go.Proofs.YtbimnfmjgmfijaaDoor
namespace Go.Proofs.YtbimnfmjgmfijaaDoor
open Go.RowKit
theorem chain_ex (l : List Nat) : ∃ q h t s k d a f g le be, Chain 1000 l q h t s k d a f g le be := by
  rcases c1 : rInt 113 1099511627776 l false with ⟨q, l1, b1⟩
  rcases c2 : rInt 104 1099511627776 l1 b1 with ⟨h, l2, b2⟩
  rcases c3 : rInt 116 1099511627776 l2 b2 with ⟨t, l3, b3⟩
  rcases c4 : rText 115 1000 l3 b3 with ⟨s, l4, b4⟩
  rcases c5 : rText 107 1000 l4 b4 with ⟨k, l5, b5⟩
  rcases c6 : rText 100 1000 l5 b5 with ⟨d, l6, b6⟩
  rcases c7 : rText 97 1000 l6 b6 with ⟨a, l7, b7⟩
  rcases c8 : rText 102 1000 l7 b7 with ⟨f, l8, b8⟩
  rcases c9 : rText 103 1000 l8 b8 with ⟨g, le, be⟩
  exact ⟨q, h, t, s, k, d, a, f, g, le, be, l1, b1, l2, b2, l3, b3, l4, b4, l5, b5, l6, b6, l7, b7, l8, b8, c1.symm, c2.symm, c3.symm, c4.symm, c5.symm, c6.symm, c7.symm, c8.symm, c9.symm⟩
theorem pk_inj {q h t q' h' t' : Int} {s k d f g s' k' d' f' g' : ByteArray} {n n' : Nat}
    (zs : (bysN s).length ≤ 1000) (zk : (bysN k).length ≤ 1000) (zd : (bysN d).length ≤ 1000) (zf : (bysN f).length ≤ 1000) (zg : (bysN g).length ≤ 1000)
    (ys : (bysN s').length ≤ 1000) (yk : (bysN k').length ≤ 1000) (yd : (bysN d').length ≤ 1000) (yf : (bysN f').length ≤ 1000) (yg : (bysN g').length ≤ 1000)
    (hq : q ≤ 9223372036854775807) (hh : h ≤ 9223372036854775807) (ht : t ≤ 9223372036854775807) (hq' : q' ≤ 9223372036854775807) (hh' : h' ≤ 9223372036854775807) (ht' : t' ≤ 9223372036854775807) (hn : W256 n) (hn' : W256 n')
    (ok : okP q h t (bysN s) (bysN k) (bysN d) (bysN f) (bysN g) n = true) (ok' : okP q' h' t' (bysN s') (bysN k') (bysN d') (bysN f') (bysN g') n' = true)
    (e : pkB q h t (bysN s) (bysN k) (bysN d) n (bysN f) (bysN g) = pkB q' h' t' (bysN s') (bysN k') (bysN d') n' (bysN f') (bysN g')) :
    q = q' ∧ h = h' ∧ t = t' ∧ s = s' ∧ k = k' ∧ d = d' ∧ f = f' ∧ g = g' ∧ n = n' := by
  have lim : ∀ {q h t : Int} {s k d f g : List Nat} {n : Nat}, okP q h t s k d f g n = true → (1 ≤ q ∧ q ≤ 1099511627776) ∧ (0 ≤ h ∧ h ≤ 1099511627776) ∧ (0 ≤ t ∧ t ≤ 1099511627776) := fun hok => by
    refine ⟨?_, ?_, ?_⟩
    · exact Classical.byContradiction fun c => by rw [okP_false (.inl c)] at hok; cases hok
    · exact Classical.byContradiction fun c => by rw [okP_false (.inr (.inl c))] at hok; cases hok
    · exact Classical.byContradiction fun c => by rw [okP_false (.inr (.inr (.inl c)))] at hok; cases hok
  have L1 := lim ok
  have L2 := lim ok'
  obtain ⟨q1, h1, t1, s1, k1, d1, a1, f1, g1, le, be, hc⟩ := chain_ex (pkB q h t (bysN s) (bysN k) (bysN d) n (bysN f) (bysN g) ++ [])
  have hc' := hc
  rw [e] at hc'
  rcases chain_pkB zs zk zd zf zg hq hh ht hc with ⟨hb, _⟩ | ⟨e1, e2, e3, e4, e5, e6, e7, e8, e9, _, _⟩
  · omega
  · rcases chain_pkB ys yk yd yf yg hq' hh' ht' hc' with ⟨hb, _⟩ | ⟨x1, x2, x3, x4, x5, x6, x7, x8, x9, _, _⟩
    · omega
    · refine ⟨by omega, by omega, by omega, bysN_inj (e4.symm.trans x4), bysN_inj (e5.symm.trans x5), bysN_inj (e6.symm.trans x6), bysN_inj (e8.symm.trans x8), bysN_inj (e9.symm.trans x9), ?_⟩
      have h1 := (am_of (e7.symm.trans x7) hn').2
      rw [show (⟨(bys n).toArray⟩ : ByteArray).data.toList = bys n from rfl, unb_bys n hn] at h1
      exact h1
theorem Blk.far12 {w : World} {g g2 : Nat} {t : TypeId} {cs : Array Value} (h : Blk w g2 t cs) (hg : g2 ≠ g) (v0 v1 v2 v3 v4 v5 v6 v7 v8 v9 v10 v11 : Value) : Blk ((((((((((((w.setCell ⟨g, 0, none⟩ v0).setCell ⟨g, 1, none⟩ v1).setCell ⟨g, 2, none⟩ v2).setCell ⟨g, 3, none⟩ v3).setCell ⟨g, 4, none⟩ v4).setCell ⟨g, 5, none⟩ v5).setCell ⟨g, 6, none⟩ v6).setCell ⟨g, 7, none⟩ v7).setCell ⟨g, 8, none⟩ v8).setCell ⟨g, 9, none⟩ v9).setCell ⟨g, 10, none⟩ v10).setCell ⟨g, 11, none⟩ v11) g2 t cs :=
  (((((((((((h.far hg _).far hg _).far hg _).far hg _).far hg _).far hg _).far hg _).far hg _).far hg _).far hg _).far hg _).far hg _
/-- Are two packets the same? -/
def eqP (q h t q' h' t' : Int) (s k d f g s' k' d' f' g' : ByteArray) (n n' : Nat) : Prop := q = q' ∧ h = h' ∧ t = t' ∧ s = s' ∧ k = k' ∧ d = d' ∧ f = f' ∧ g = g' ∧ n = n'
theorem eqPkt_no {q h t q' h' t' : Int} {s k d f g s' k' d' f' g' : ByteArray} {n n' : Nat} (hn : W256 n) (hn' : W256 n') (hne : ¬ eqP q h t q' h' t' s k d f g s' k' d' f' g' n n') (w : World) :
    (Op.equalIn 10000 30 (pkV q h t (limb n 0) (limb n 1) (limb n 2) (limb n 3) s k d f g) (pkV q' h' t' (limb n' 0) (limb n' 1) (limb n' 2) (limb n' 3) s' k' d' f' g')).run Tryd.prog w = .ok false w := by
  rw [eqPkt, limbs_beq hn hn']
  congr 1
  rw [Bool.eq_false_iff]
  intro e
  simp only [Bool.and_eq_true, beq_iff_eq, decide_eq_true_eq, Bool.and_true] at e
  obtain ⟨a1, a2, a3, ⟨a4, a5, a6, a7⟩, a8, a9⟩ := e
  exact hne ⟨a1, a8, a9, bysN_inj a2, bysN_inj a3, bysN_inj a4, bysN_inj a6, bysN_inj a7, a5⟩
end Go.Proofs.YtbimnfmjgmfijaaDoor

/- Po, Ps, Pq, Pr, Pt in one text. -/
import Derived.Test.YtbimnfmjgmfijaaDoorM1
import Derived.Test.YtbimnfmjgmfijaaDoorMW
import Derived.Test.YtbimnfmjgmfijaaDoorYk
import Derived.Test.YtbimnfmjgmfijaaDoorM3
namespace Go.Proofs.YtbimnfmjgmfijaaDoor
open Go.RowKit
attribute [local go_sem ↓] Go.wp_at_zero Go.wp_at_succ
section
variable {P : Program} {ops : Array Oper} {S : World → Prop} {op : Oper} {a : Act}
theorem yk_fa (hw : Region.wanted op (yielded ops a.tmps) = true) (t : TypeId) (x : Operand) (i : Nat) (ho : op.op = .fieldAddr t x i) (X : Value) (hx : a.eval x = X) (v : Value)
    (hr : ∀ w, S w → (Instr.fieldAt t X i).run P w = .ok v w) : YieldsIf P ops S op v a :=
  .inl ⟨hw, fun w hS => by
    have h := hr w hS
    unfold execOp
    simp only [ho, hx]
    rw [Sem.run_bind, h]
    rfl⟩
end
/-- The boxes that a packet's bytes are read from. -/
structure BI (w0 : World) (g1 g3 : Nat) (c1 c3 : Array Value) (W : World) : Prop where
  k1 : Blk W g1 30 c1
  k3 : Blk W g3 28 c3 ∨ g3 = g1
  hb : Below w0.heap.size w0 W
theorem BI.on {w0 W W' : World} {g1 g3 : Nat} {c1 c3 : Array Value} (h : BI w0 g1 g3 c1 c3 W) (hb : Below W.heap.size W W') : BI w0 g1 g3 c1 c3 W' := ⟨h.k1.on hb, h.k3.imp (fun e => e.on hb) id, BW_on h.hb hb⟩
theorem BI.drew {w0 W : World} {g1 g3 : Nat} {c1 c3 : Array Value} (h : BI w0 g1 g3 c1 c3 W) : BI w0 g1 g3 c1 c3 W.drew := h.on (Below.refl _ _).drew
theorem tlvT_len (c : Nat) (l : List Nat) : (tlvT c l).length = l.length + 4 := by unfold tlvT hd4; rw [List.length_append]; simp; omega
theorem tlvI_len (c : Nat) (n : Int) (hn : n ≤ 9223372036854775807) : (tlvI c n).length ≤ 12 := by
  unfold tlvI
  rw [tlvT_len]
  have := digB_len 8 n.toNat (by omega)
  omega
/-- A packet's bytes. -/
def pkB (q h t : Int) (s k d : List Nat) (n : Nat) (f g : List Nat) : List Nat :=
  tlvI 113 q ++ tlvI 104 h ++ tlvI 116 t ++ tlvT 115 s ++ tlvT 107 k ++ tlvT 100 d ++ tlvT 97 (bysN ⟨(bys n).toArray⟩) ++ tlvT 102 f ++ tlvT 103 g
theorem bys_size (n : Nat) : (⟨(bys n).toArray⟩ : ByteArray).size = 32 := by
  show (bys n).toArray.size = 32
  rw [List.size_toArray, bys_len]
set_option maxHeartbeats 8000000 in
set_option maxRecDepth 100000 in
theorem pkbytes_any (q h t : Int) (s k d f g : ByteArray) (n : Nat) (w : World) (zs : s.size ≤ 1000000) (zk : k.size ≤ 1000000) (zd : d.size ≤ 1000000) (zf : f.size ≤ 1000000) (zg : g.size ≤ 1000000)
    (hq : q ≤ 9223372036854775807) (hh : h ≤ 9223372036854775807) (ht : t ≤ 9223372036854775807) : Calls Tryd.prog 12 #[.agg #[.int .i64 q, .string s, .string k, .string d, .int .u64 (limb n 0), .int .u64 (limb n 1), .int .u64 (limb n 2), .int .u64 (limb n 3), .string f, .string g, .int .i64 h, .int .i64 t]] w fun e w' => ∃ u, e = .returned (.string u) ∧ bysN u = pkB q h t (bysN s) (bysN k) (bysN d) n (bysN f) (bysN g) ∧ Below w.heap.size w w' := by
  have zam := bys_size n
  have lq := tlvI_len 113 q hq
  have lh := tlvI_len 104 h hh
  have lt := tlvI_len 116 t ht
  have HPK : Hid (pkB q h t (bysN s) (bysN k) (bysN d) n (bysN f) (bysN g) = tlvI 113 q ++ tlvI 104 h ++ tlvI 116 t ++ tlvT 115 (bysN s) ++ tlvT 107 (bysN k) ++ tlvT 100 (bysN d) ++ tlvT 97 (bysN ⟨(bys n).toArray⟩) ++ tlvT 102 (bysN f) ++ tlvT 103 (bysN g)) := Lib.hid rfl
  generalize pkB q h t (bysN s) (bysN k) (bysN d) n (bysN f) (bysN g) = PK at *
  go_enter Tryd.func12, Tryd.ntmps12
  have hS0 : BI w w.heap.size (w.heap.size + 1) #[.int .i64 q, .string s, .string k, .string d, .int .u64 (limb n 0), .int .u64 (limb n 1), .int .u64 (limb n 2), .int .u64 (limb n 3), .string f, .string g, .int .i64 h, .int .i64 t] #[.string d, .int .u64 (limb n 0), .int .u64 (limb n 1), .int .u64 (limb n 2), .int .u64 (limb n 3), .string f, .string g] ((w.alloc (.cells #[.int .i64 q, .string s, .string k, .string d, .int .u64 (limb n 0), .int .u64 (limb n 1), .int .u64 (limb n 2), .int .u64 (limb n 3), .string f, .string g, .int .i64 h, .int .i64 t] 30)).alloc (.cells #[.string d, .int .u64 (limb n 0), .int .u64 (limb n 1), .int .u64 (limb n 2), .int .u64 (limb n 3), .string f, .string g] 28)) := ⟨(blk1 w _ _).alloc _, .inl (blk2 w _ _ _), BW_alloc (BW_alloc (BW_refl w) _) _⟩
  have hne : w.heap.size + 1 ≠ w.heap.size := by omega
  go_upto_region 2 with (fail)
  change Code.wp _ _ _ _ ((w.alloc (.cells #[.int .i64 q, .string s, .string k, .string d, .int .u64 (limb n 0), .int .u64 (limb n 1), .int .u64 (limb n 2), .int .u64 (limb n 3), .string f, .string g, .int .i64 h, .int .i64 t] 30)).alloc (.cells #[.string d, .int .u64 (limb n 0), .int .u64 (limb n 1), .int .u64 (limb n 2), .int .u64 (limb n 3), .string f, .string g] 28))
  generalize (w.alloc (.cells #[.int .i64 q, .string s, .string k, .string d, .int .u64 (limb n 0), .int .u64 (limb n 1), .int .u64 (limb n 2), .int .u64 (limb n 3), .string f, .string g, .int .i64 h, .int .i64 t] 30)).alloc (.cells #[.string d, .int .u64 (limb n 0), .int .u64 (limb n 1), .int .u64 (limb n 2), .int .u64 (limb n 3), .string f, .string g] 28) = W at *
  generalize hg3 : w.heap.size + 1 = g3 at *
  generalize hg1 : w.heap.size = g1 at *
  have Hg1 := Bx9.mk hg1
  have Hne := Lib.hid hne
  clear hg1 hg3 hne
  refine wp_region_held_drew (S := BI w g1 g3 #[.int .i64 q, .string s, .string k, .string d, .int .u64 (limb n 0), .int .u64 (limb n 1), .int .u64 (limb n 2), .int .u64 (limb n 3), .string f, .string g, .int .i64 h, .int .i64 t] #[.string d, .int .u64 (limb n 0), .int .u64 (limb n 1), .int .u64 (limb n 2), .int .u64 (limb n 3), .string f, .string g]) (by kernel_rfl) hS0.drew (fun hH0 => ?_)
  refine wpAnyH_take (i := 0) (v := .pointer (some ⟨g1, 0, none⟩)) rfl (by kernel_rfl) (by kernel_rfl) (by kernel_rfl) (fun _ _ _ h => h) (yk_fa (by kernel_rfl) _ _ _ rfl (.pointer (some ⟨g1, 0, none⟩)) (by kernel_rfl) _ (fun w' hw' => by go_simp)) hH0 ?_
  refine wpAnyH_take (i := 1) (v := .int .i64 q) rfl (by kernel_rfl) (by kernel_rfl) (by kernel_rfl) (fun _ _ _ h => h) (yk_load (by kernel_rfl) _ _ rfl (.pointer (some ⟨g1, 0, none⟩)) (by kernel_rfl) _ (fun w' hw' => by have c0 := hw'.k1.cell 0; go_simp)) hH0 ?_
  refine wpAnyH_take (i := 3) (v := .pointer (some ⟨g1, 10, none⟩)) rfl (by kernel_rfl) (by kernel_rfl) (by kernel_rfl) (fun _ _ _ h => h) (yk_fa (by kernel_rfl) _ _ _ rfl (.pointer (some ⟨g1, 0, none⟩)) (by kernel_rfl) _ (fun w' hw' => by go_simp)) hH0 ?_
  refine wpAnyH_take (i := 4) (v := .int .i64 h) rfl (by kernel_rfl) (by kernel_rfl) (by kernel_rfl) (fun _ _ _ h => h) (yk_load (by kernel_rfl) _ _ rfl (.pointer (some ⟨g1, 10, none⟩)) (by kernel_rfl) _ (fun w' hw' => by have c0 := hw'.k1.cell 10; go_simp)) hH0 ?_
  refine wpAnyH_take (i := 7) (v := .pointer (some ⟨g1, 11, none⟩)) rfl (by kernel_rfl) (by kernel_rfl) (by kernel_rfl) (fun _ _ _ h => h) (yk_fa (by kernel_rfl) _ _ _ rfl (.pointer (some ⟨g1, 0, none⟩)) (by kernel_rfl) _ (fun w' hw' => by go_simp)) hH0 ?_
  refine wpAnyH_take (i := 8) (v := .int .i64 t) rfl (by kernel_rfl) (by kernel_rfl) (by kernel_rfl) (fun _ _ _ h => h) (yk_load (by kernel_rfl) _ _ rfl (.pointer (some ⟨g1, 11, none⟩)) (by kernel_rfl) _ (fun w' hw' => by have c0 := hw'.k1.cell 11; go_simp)) hH0 ?_
  refine wpAnyH_take (i := 11) (v := .pointer (some ⟨g1, 1, none⟩)) rfl (by kernel_rfl) (by kernel_rfl) (by kernel_rfl) (fun _ _ _ h => h) (yk_fa (by kernel_rfl) _ _ _ rfl (.pointer (some ⟨g1, 0, none⟩)) (by kernel_rfl) _ (fun w' hw' => by go_simp)) hH0 ?_
  refine wpAnyH_take (i := 12) (v := .string s) rfl (by kernel_rfl) (by kernel_rfl) (by kernel_rfl) (fun _ _ _ h => h) (yk_load (by kernel_rfl) _ _ rfl (.pointer (some ⟨g1, 1, none⟩)) (by kernel_rfl) _ (fun w' hw' => by have c0 := hw'.k1.cell 1; go_simp)) hH0 ?_
  refine wpAnyH_take (i := 15) (v := .pointer (some ⟨g1, 2, none⟩)) rfl (by kernel_rfl) (by kernel_rfl) (by kernel_rfl) (fun _ _ _ h => h) (yk_fa (by kernel_rfl) _ _ _ rfl (.pointer (some ⟨g1, 0, none⟩)) (by kernel_rfl) _ (fun w' hw' => by go_simp)) hH0 ?_
  refine wpAnyH_take (i := 16) (v := .string k) rfl (by kernel_rfl) (by kernel_rfl) (by kernel_rfl) (fun _ _ _ h => h) (yk_load (by kernel_rfl) _ _ rfl (.pointer (some ⟨g1, 2, none⟩)) (by kernel_rfl) _ (fun w' hw' => by have c0 := hw'.k1.cell 2; go_simp)) hH0 ?_
  refine wpAnyH_take (i := 19) (v := .pointer (some ⟨g3, 0, none⟩)) rfl (by kernel_rfl) (by kernel_rfl) (by kernel_rfl) (fun _ _ _ h => h) (yk_fa (by kernel_rfl) _ _ _ rfl (.pointer (some ⟨g3, 0, none⟩)) (by kernel_rfl) _ (fun w' hw' => by go_simp)) hH0 ?_
  refine wpAnyH_take (i := 20) (v := .string d) rfl (by kernel_rfl) (by kernel_rfl) (by kernel_rfl) (fun _ _ _ h => h) (yk_load (by kernel_rfl) _ _ rfl (.pointer (some ⟨g3, 0, none⟩)) (by kernel_rfl) _ (fun w' hw' => by have c0 := (hw'.k3.resolve_right Hne.out).cell 0; go_simp)) hH0 ?_
  refine wpAnyH_take (i := 23) (v := .pointer (some ⟨g3, 1, none⟩)) rfl (by kernel_rfl) (by kernel_rfl) (by kernel_rfl) (fun _ _ _ h => h) (yk_fa (by kernel_rfl) _ _ _ rfl (.pointer (some ⟨g3, 0, none⟩)) (by kernel_rfl) _ (fun w' hw' => by go_simp)) hH0 ?_
  refine wpAnyH_take (i := 24) (v := .agg #[.int .u64 (limb n 0), .int .u64 (limb n 1), .int .u64 (limb n 2), .int .u64 (limb n 3)]) rfl (by kernel_rfl) (by kernel_rfl) (by kernel_rfl) (fun _ _ _ h => h) (yk_load (by kernel_rfl) _ _ rfl (.pointer (some ⟨g3, 1, none⟩)) (by kernel_rfl) _ (fun w' hw' => by have c0 := (hw'.k3.resolve_right Hne.out).cell 1; have c1 := (hw'.k3.resolve_right Hne.out).cell 2; have c2 := (hw'.k3.resolve_right Hne.out).cell 3; have c3 := (hw'.k3.resolve_right Hne.out).cell 4; go_simp)) hH0 ?_
  refine wpAnyH_take (i := 28) (v := .pointer (some ⟨g3, 5, none⟩)) rfl (by kernel_rfl) (by kernel_rfl) (by kernel_rfl) (fun _ _ _ h => h) (yk_fa (by kernel_rfl) _ _ _ rfl (.pointer (some ⟨g3, 0, none⟩)) (by kernel_rfl) _ (fun w' hw' => by go_simp)) hH0 ?_
  refine wpAnyH_take (i := 29) (v := .string f) rfl (by kernel_rfl) (by kernel_rfl) (by kernel_rfl) (fun _ _ _ h => h) (yk_load (by kernel_rfl) _ _ rfl (.pointer (some ⟨g3, 5, none⟩)) (by kernel_rfl) _ (fun w' hw' => by have c0 := (hw'.k3.resolve_right Hne.out).cell 5; go_simp)) hH0 ?_
  refine wpAnyH_take (i := 32) (v := .pointer (some ⟨g3, 6, none⟩)) rfl (by kernel_rfl) (by kernel_rfl) (by kernel_rfl) (fun _ _ _ h => h) (yk_fa (by kernel_rfl) _ _ _ rfl (.pointer (some ⟨g3, 0, none⟩)) (by kernel_rfl) _ (fun w' hw' => by go_simp)) hH0 ?_
  refine wpAnyH_take (i := 33) (v := .string g) rfl (by kernel_rfl) (by kernel_rfl) (by kernel_rfl) (fun _ _ _ h => h) (yk_load (by kernel_rfl) _ _ rfl (.pointer (some ⟨g3, 6, none⟩)) (by kernel_rfl) _ (fun w' hw' => by have c0 := (hw'.k3.resolve_right Hne.out).cell 6; go_simp)) hH0 ?_
  refine wpAnyH_ready (rs := [2]) (by kernel_rfl) (by simp) ?_
  refine AllReadyH.cons rfl (fun K hK => ?_) AllReadyH.nil
  go_simp
  go_at_call 35
  refine (tint_any 113 q _ (by decide) hq).mono ?_
  rintro e w2 ⟨tq, rfl, htq, hd2⟩
  have ztq : tq.size ≤ 1000010 := by rw [← bysN_len, htq]; omega
  go_wp2_with fail
  refine hK.out _ _ (BI.on hH0 hd2) (fun hH1 => ?_)
  clear hK K
  refine wpAnyH_ready (rs := [5]) (by kernel_rfl) (by simp) ?_
  refine AllReadyH.cons rfl (fun K hK => ?_) AllReadyH.nil
  go_simp
  go_at_call 35
  refine (tint_any 104 h _ (by decide) hh).mono ?_
  rintro e w5 ⟨th, rfl, hth, hd5⟩
  have zth : th.size ≤ 1000010 := by rw [← bysN_len, hth]; omega
  go_wp2_with fail
  refine hK.out _ _ (BI.on hH1 hd5) (fun hH2 => ?_)
  clear hK K
  obtain ⟨u1, hu1, au1⟩ := cat_big tq th (by omega)
  have zu1 : u1.size ≤ 2 * 1000010 := by rw [← bysN_len, hu1, List.length_append, bysN_len, bysN_len]; omega
  refine wpAnyH_take (i := 6) (v := .string u1) rfl (by kernel_rfl) (by kernel_rfl) (by kernel_rfl) (fun _ _ _ h => h) (yk_bin (by kernel_rfl) _ _ _ _ _ rfl (.string tq) (.string th) (by kernel_rfl) (by kernel_rfl) _ (fun w' hw' => by have h0 := au1 w'; go_simp)) hH2 ?_
  refine wpAnyH_ready (rs := [9]) (by kernel_rfl) (by simp) ?_
  refine AllReadyH.cons rfl (fun K hK => ?_) AllReadyH.nil
  go_simp
  go_at_call 35
  refine (tint_any 116 t _ (by decide) ht).mono ?_
  rintro e w9 ⟨tt, rfl, htt, hd9⟩
  have ztt : tt.size ≤ 1000010 := by rw [← bysN_len, htt]; omega
  go_wp2_with fail
  refine hK.out _ _ (BI.on hH2 hd9) (fun hH3 => ?_)
  clear hK K
  obtain ⟨u2, hu2, au2⟩ := cat_big u1 tt (by omega)
  have zu2 : u2.size ≤ 3 * 1000010 := by rw [← bysN_len, hu2, List.length_append, bysN_len, bysN_len]; omega
  refine wpAnyH_take (i := 10) (v := .string u2) rfl (by kernel_rfl) (by kernel_rfl) (by kernel_rfl) (fun _ _ _ h => h) (yk_bin (by kernel_rfl) _ _ _ _ _ rfl (.string u1) (.string tt) (by kernel_rfl) (by kernel_rfl) _ (fun w' hw' => by have h0 := au2 w'; go_simp)) hH3 ?_
  refine wpAnyH_ready (rs := [13]) (by kernel_rfl) (by simp) ?_
  refine AllReadyH.cons rfl (fun K hK => ?_) AllReadyH.nil
  go_simp
  go_at_call 36
  refine (ttext_any 115 s _ (by decide) (by omega)).mono ?_
  rintro e w13 ⟨ts, rfl, hts, hd13⟩
  have zts : ts.size ≤ 1000010 := by rw [← bysN_len, hts, tlvT_len, bysN_len]; omega
  go_wp2_with fail
  refine hK.out _ _ (BI.on hH3 hd13) (fun hH4 => ?_)
  clear hK K
  obtain ⟨u3, hu3, au3⟩ := cat_big u2 ts (by omega)
  have zu3 : u3.size ≤ 4 * 1000010 := by rw [← bysN_len, hu3, List.length_append, bysN_len, bysN_len]; omega
  refine wpAnyH_take (i := 14) (v := .string u3) rfl (by kernel_rfl) (by kernel_rfl) (by kernel_rfl) (fun _ _ _ h => h) (yk_bin (by kernel_rfl) _ _ _ _ _ rfl (.string u2) (.string ts) (by kernel_rfl) (by kernel_rfl) _ (fun w' hw' => by have h0 := au3 w'; go_simp)) hH4 ?_
  refine wpAnyH_ready (rs := [17]) (by kernel_rfl) (by simp) ?_
  refine AllReadyH.cons rfl (fun K hK => ?_) AllReadyH.nil
  go_simp
  go_at_call 36
  refine (ttext_any 107 k _ (by decide) (by omega)).mono ?_
  rintro e w17 ⟨tk, rfl, htk, hd17⟩
  have ztk : tk.size ≤ 1000010 := by rw [← bysN_len, htk, tlvT_len, bysN_len]; omega
  go_wp2_with fail
  refine hK.out _ _ (BI.on hH4 hd17) (fun hH5 => ?_)
  clear hK K
  obtain ⟨u4, hu4, au4⟩ := cat_big u3 tk (by omega)
  have zu4 : u4.size ≤ 5 * 1000010 := by rw [← bysN_len, hu4, List.length_append, bysN_len, bysN_len]; omega
  refine wpAnyH_take (i := 18) (v := .string u4) rfl (by kernel_rfl) (by kernel_rfl) (by kernel_rfl) (fun _ _ _ h => h) (yk_bin (by kernel_rfl) _ _ _ _ _ rfl (.string u3) (.string tk) (by kernel_rfl) (by kernel_rfl) _ (fun w' hw' => by have h0 := au4 w'; go_simp)) hH5 ?_
  refine wpAnyH_ready (rs := [21]) (by kernel_rfl) (by simp) ?_
  refine AllReadyH.cons rfl (fun K hK => ?_) AllReadyH.nil
  go_simp
  go_at_call 36
  refine (ttext_any 100 d _ (by decide) (by omega)).mono ?_
  rintro e w21 ⟨td, rfl, htd, hd21⟩
  have ztd : td.size ≤ 1000010 := by rw [← bysN_len, htd, tlvT_len, bysN_len]; omega
  go_wp2_with fail
  refine hK.out _ _ (BI.on hH5 hd21) (fun hH6 => ?_)
  clear hK K
  obtain ⟨u5, hu5, au5⟩ := cat_big u4 td (by omega)
  have zu5 : u5.size ≤ 6 * 1000010 := by rw [← bysN_len, hu5, List.length_append, bysN_len, bysN_len]; omega
  refine wpAnyH_take (i := 22) (v := .string u5) rfl (by kernel_rfl) (by kernel_rfl) (by kernel_rfl) (fun _ _ _ h => h) (yk_bin (by kernel_rfl) _ _ _ _ _ rfl (.string u4) (.string td) (by kernel_rfl) (by kernel_rfl) _ (fun w' hw' => by have h0 := au5 w'; go_simp)) hH6 ?_
  refine wpAnyH_ready (rs := [25]) (by kernel_rfl) (by simp) ?_
  refine AllReadyH.cons rfl (fun K hK => ?_) AllReadyH.nil
  go_simp
  go_at_call 37
  refine (bytes_any n _).mono ?_
  rintro e w25 ⟨rfl, hd25⟩
  go_wp2_with fail
  refine hK.out _ _ (BI.on hH6 hd25) (fun hH7 => ?_)
  clear hK K
  refine wpAnyH_ready (rs := [26]) (by kernel_rfl) (by simp) ?_
  refine AllReadyH.cons rfl (fun K hK => ?_) AllReadyH.nil
  go_simp
  go_at_call 36
  refine (ttext_any 97 ⟨(bys n).toArray⟩ _ (by decide) (by omega)).mono ?_
  rintro e w26 ⟨ta, rfl, hta, hd26⟩
  have zta : ta.size ≤ 1000010 := by rw [← bysN_len, hta, tlvT_len, bysN_len]; omega
  go_wp2_with fail
  refine hK.out _ _ (BI.on hH7 hd26) (fun hH8 => ?_)
  clear hK K
  obtain ⟨u6, hu6, au6⟩ := cat_big u5 ta (by omega)
  have zu6 : u6.size ≤ 7 * 1000010 := by rw [← bysN_len, hu6, List.length_append, bysN_len, bysN_len]; omega
  refine wpAnyH_take (i := 27) (v := .string u6) rfl (by kernel_rfl) (by kernel_rfl) (by kernel_rfl) (fun _ _ _ h => h) (yk_bin (by kernel_rfl) _ _ _ _ _ rfl (.string u5) (.string ta) (by kernel_rfl) (by kernel_rfl) _ (fun w' hw' => by have h0 := au6 w'; go_simp)) hH8 ?_
  refine wpAnyH_ready (rs := [30]) (by kernel_rfl) (by simp) ?_
  refine AllReadyH.cons rfl (fun K hK => ?_) AllReadyH.nil
  go_simp
  go_at_call 36
  refine (ttext_any 102 f _ (by decide) (by omega)).mono ?_
  rintro e w30 ⟨tf, rfl, htf, hd30⟩
  have ztf : tf.size ≤ 1000010 := by rw [← bysN_len, htf, tlvT_len, bysN_len]; omega
  go_wp2_with fail
  refine hK.out _ _ (BI.on hH8 hd30) (fun hH9 => ?_)
  clear hK K
  obtain ⟨u7, hu7, au7⟩ := cat_big u6 tf (by omega)
  have zu7 : u7.size ≤ 8 * 1000010 := by rw [← bysN_len, hu7, List.length_append, bysN_len, bysN_len]; omega
  refine wpAnyH_take (i := 31) (v := .string u7) rfl (by kernel_rfl) (by kernel_rfl) (by kernel_rfl) (fun _ _ _ h => h) (yk_bin (by kernel_rfl) _ _ _ _ _ rfl (.string u6) (.string tf) (by kernel_rfl) (by kernel_rfl) _ (fun w' hw' => by have h0 := au7 w'; go_simp)) hH9 ?_
  refine wpAnyH_ready (rs := [34]) (by kernel_rfl) (by simp) ?_
  refine AllReadyH.cons rfl (fun K hK => ?_) AllReadyH.nil
  go_simp
  go_at_call 36
  refine (ttext_any 103 g _ (by decide) (by omega)).mono ?_
  rintro e w34 ⟨tg, rfl, htg, hd34⟩
  have ztg : tg.size ≤ 1000010 := by rw [← bysN_len, htg, tlvT_len, bysN_len]; omega
  go_wp2_with fail
  refine hK.out _ _ (BI.on hH9 hd34) (fun hH10 => ?_)
  clear hK K
  obtain ⟨u8, hu8, au8⟩ := cat_big u7 tg (by omega)
  have zu8 : u8.size ≤ 9 * 1000010 := by rw [← bysN_len, hu8, List.length_append, bysN_len, bysN_len]; omega
  refine wpAnyH_take (i := 35) (v := .string u8) rfl (by kernel_rfl) (by kernel_rfl) (by kernel_rfl) (fun _ _ _ h => h) (yk_bin (by kernel_rfl) _ _ _ _ _ rfl (.string u7) (.string tg) (by kernel_rfl) (by kernel_rfl) _ (fun w' hw' => by have h0 := au8 w'; go_simp)) hH10 ?_
  refine wpAnyH_take (i := 36) (v := .string u8) rfl (by kernel_rfl) (by kernel_rfl) (by kernel_rfl) (fun _ _ _ h => h) (yk_assign (by kernel_rfl) _ rfl _ (by kernel_rfl)) hH10 ?_
  refine wpAnyH_done (by kernel_rfl) ?_ _
  have hbf := hH10.hb
  have HU : Hid (bysN u8 = PK) := Lib.hid (by rw [HPK.out, hu8, hu7, hu6, hu5, hu4, hu3, hu2, hu1, htq, hth, htt, hts, htk, htd, hta, htf, htg])
  skip
  go_wp2_with fail
  go_ret
  exact ⟨_, rfl, HU.out, by first | exact hbf | (rw [Hg1.out]; exact hbf) | (rw [Hg1.out] at hbf; exact hbf)⟩
end Go.Proofs.YtbimnfmjgmfijaaDoor
namespace Go.Proofs.YtbimnfmjgmfijaaDoor
open Go.RowKit
set_option maxRecDepth 100000 in
theorem cell_int {W : World} {base : Nat} {t : TypeId} {k : IntKind} {v : Value} (hu : Tryd.prog.underlying t = some (.int k)) (h : Cell.okWide Tryd.prog W .any base t v) : ∃ n, v = .int k n ∧ k.has n := by
  unfold Cell.okWide at h
  rw [hu] at h
  unfold Cell.ok at h
  simp only [hu] at h
  cases v <;> simp at h
  case int k' n => exact ⟨n, by rw [h.1], h.2⟩
set_option maxRecDepth 100000 in
theorem cell_str {W : World} {base : Nat} {t : TypeId} {v : Value} (hu : Tryd.prog.underlying t = some .string) (h : Cell.okWide Tryd.prog W .any base t v) : ∃ s, v = .string s := by
  unfold Cell.okWide at h
  rw [hu] at h
  unfold Cell.ok at h
  simp only [hu] at h
  cases v <;> simp at h
  case string s => exact ⟨s, rfl⟩
set_option maxRecDepth 100000 in
theorem has_i64 {n : Int} (h : IntKind.i64.has n) : n ≤ 9223372036854775807 := h.2
set_option maxRecDepth 100000 in
theorem has_u64 {n : Int} (h : IntKind.u64.has n) : ∃ a : Nat, n = (a : Int) ∧ a < 18446744073709551616 := by
  have h1 : 0 ≤ n := h.1
  have h2 : n ≤ 18446744073709551615 := h.2
  exact ⟨n.toNat, by omega, by omega⟩
set_option maxRecDepth 100000 in
theorem open_pkt {W : World} {base : Nat} {v : Value} (hv : Value.okWide Tryd.prog W .any base 30 v) :
    ∃ (q h t : Int) (s k d f g : ByteArray) (n : Nat), v = .agg #[.int .i64 q, .string s, .string k, .string d, .int .u64 (limb n 0), .int .u64 (limb n 1), .int .u64 (limb n 2), .int .u64 (limb n 3), .string f, .string g, .int .i64 h, .int .i64 t] ∧ W256 n ∧ q ≤ 9223372036854775807 ∧ h ≤ 9223372036854775807 ∧ t ≤ 9223372036854775807 := by
  have hS : Tryd.prog.underlying 30 = some (.struct (Tryd.prog.fieldsOf 30)) := by kernel_rfl
  have hC : Tryd.prog.cellsOf 30 = 12 := by kernel_rfl
  have hT : Tryd.prog.cellTypes Tryd.prog.depth 30 = some [3, 9, 9, 9, 24, 24, 24, 24, 9, 9, 3, 3] := by kernel_rfl
  unfold Value.okWide at hv
  rw [hS] at hv
  obtain ⟨cs, rfl, hsz, ts, hts, _, hall⟩ := hv
  rw [hT] at hts
  obtain rfl := Option.some.inj hts
  rw [hC] at hsz
  obtain ⟨l⟩ := cs
  match l, hsz with
  | [v0, v1, v2, v3, v4, v5, v6, v7, v8, v9, v10, v11], _ =>
    obtain ⟨u0, e0, o0⟩ := hall 0 v0 rfl
    obtain ⟨u1, e1, o1⟩ := hall 1 v1 rfl
    obtain ⟨u2, e2, o2⟩ := hall 2 v2 rfl
    obtain ⟨u3, e3, o3⟩ := hall 3 v3 rfl
    obtain ⟨u4, e4, o4⟩ := hall 4 v4 rfl
    obtain ⟨u5, e5, o5⟩ := hall 5 v5 rfl
    obtain ⟨u6, e6, o6⟩ := hall 6 v6 rfl
    obtain ⟨u7, e7, o7⟩ := hall 7 v7 rfl
    obtain ⟨u8, e8, o8⟩ := hall 8 v8 rfl
    obtain ⟨u9, e9, o9⟩ := hall 9 v9 rfl
    obtain ⟨u10, e10, o10⟩ := hall 10 v10 rfl
    obtain ⟨u11, e11, o11⟩ := hall 11 v11 rfl
    cases e0
    cases e1
    cases e2
    cases e3
    cases e4
    cases e5
    cases e6
    cases e7
    cases e8
    cases e9
    cases e10
    cases e11
    obtain ⟨q, rfl, hq⟩ := cell_int Tryd.underlying3 o0
    obtain ⟨s, rfl⟩ := cell_str Tryd.underlying9 o1
    obtain ⟨k, rfl⟩ := cell_str Tryd.underlying9 o2
    obtain ⟨d, rfl⟩ := cell_str Tryd.underlying9 o3
    obtain ⟨a0, rfl, h0⟩ := cell_int Tryd.underlying24 o4
    obtain ⟨a1, rfl, h1⟩ := cell_int Tryd.underlying24 o5
    obtain ⟨a2, rfl, h2⟩ := cell_int Tryd.underlying24 o6
    obtain ⟨a3, rfl, h3⟩ := cell_int Tryd.underlying24 o7
    obtain ⟨f, rfl⟩ := cell_str Tryd.underlying9 o8
    obtain ⟨g, rfl⟩ := cell_str Tryd.underlying9 o9
    obtain ⟨h, rfl, hh⟩ := cell_int Tryd.underlying3 o10
    obtain ⟨t, rfl, ht⟩ := cell_int Tryd.underlying3 o11
    obtain ⟨b0, rfl, y0⟩ := has_u64 h0
    obtain ⟨b1, rfl, y1⟩ := has_u64 h1
    obtain ⟨b2, rfl, y2⟩ := has_u64 h2
    obtain ⟨b3, rfl, y3⟩ := has_u64 h3
    obtain ⟨N, hN, x0, x1, x2, x3⟩ := limbs_exist b0 b1 b2 b3 y0 y1 y2 y3
    exact ⟨q, h, t, s, k, d, f, g, N, by rw [x0, x1, x2, x3], hN, has_i64 hq, has_i64 hh, has_i64 ht⟩
set_option maxRecDepth 100000 in
theorem open_byte {W : World} {base : Nat} {v : Value} (hv : Value.okWide Tryd.prog W .any base 5 v) : ∃ c : Nat, v = .int .u8 (c : Int) := by
  have hu := Tryd.underlying5
  unfold Value.okWide at hv
  rw [hu] at hv
  obtain ⟨n, rfl, h1, _⟩ := cell_int hu hv
  have h2 : 0 ≤ n := h1
  exact ⟨n.toNat, by rw [Int.toNat_of_nonneg h2]⟩
end Go.Proofs.YtbimnfmjgmfijaaDoor
namespace Go.Proofs.YtbimnfmjgmfijaaDoor
open Go.RowKit
theorem bodyN_tlv (c : Nat) (x r : List Nat) (hx : x.length < 16777216) : bodyN (tlvT c x ++ r) = x.length := by
  show x.length / 65536 % 256 * 65536 + x.length / 256 % 256 * 256 + x.length % 256 = x.length
  omega
theorem rText_tlv (c m : Nat) (x r : List Nat) (hx : x.length < 16777216) : rText c m (tlvT c x ++ r) false = if m < x.length then ([], tlvT c x ++ r, true) else (x, r, false) := by
  have h0 : ¬ (false = true ∨ (tlvT c x ++ r).length < 4 ∨ (tlvT c x ++ r).getD 0 0 ≠ c) := by
    rintro (h | h | h)
    · cases h
    · rw [List.length_append, tlvT_len] at h; omega
    · exact h rfl
  have hl : (tlvT c x ++ r).length - 4 = x.length + r.length := by rw [List.length_append, tlvT_len]; omega
  have hd : (tlvT c x ++ r).drop 4 = x ++ r := rfl
  by_cases hm : m < x.length
  · rw [if_pos hm]
    exact rText_long h0 (.inl (by rw [bodyN_tlv c x r hx]; exact hm))
  · rw [if_neg hm, rText_ok h0 (by rw [bodyN_tlv c x r hx, hl]; omega), bodyN_tlv c x r hx, ← List.drop_drop, hd, List.take_left, List.drop_left]
theorem fold_digB (n : Nat) : foldN (digB n) = n := by
  induction n using Nat.strongRecOn with
  | ind n ih =>
    by_cases h : n = 0
    · rw [h, digB_zero]; rfl
    · rw [digB_pos h, foldN_snoc, ih (n / 256) (by omega)]; omega
theorem rInt_tlv (c M : Nat) (v : Int) (r : List Nat) (hv : v ≤ 9223372036854775807) : rInt c M (tlvI c v ++ r) false = if M < v.toNat then (0, r, true) else (v.toNat, r, false) := by
  have h8 := digB_len 8 v.toNat (by omega)
  have ht : rText c 8 (tlvI c v ++ r) false = (digB v.toNat, r, false) := by
    unfold tlvI
    rw [rText_tlv c 8 _ r (by omega), if_neg (by omega)]
  have hn : rNum c (tlvI c v ++ r) false = (v.toNat, r, false) := by
    unfold rNum
    rw [ht, if_neg (digB_head _), fold_digB]
  unfold rInt
  rw [hn]
theorem rInt_true (c M : Nat) (l : List Nat) : rInt c M l true = (0, l, true) := by
  have hn : rNum c l true = (0, l, true) := by
    unfold rNum
    rw [rText_true, if_neg (show ¬ ([] : List Nat).getD 0 1 = 0 by decide)]
    rfl
  unfold rInt
  rw [hn, if_neg (by omega)]
theorem chain_pkB {q h t : Int} {s k d f g x : List Nat} {n : Nat} {q1 h1 t1 : Nat} {s1 k1 d1 a1 f1 g1 le : List Nat} {be : Bool} (zs : s.length ≤ 1000) (zk : k.length ≤ 1000) (zd : d.length ≤ 1000) (zf : f.length ≤ 1000) (zg : g.length ≤ 1000)
    (hq : q ≤ 9223372036854775807) (hh : h ≤ 9223372036854775807) (ht : t ≤ 9223372036854775807) (H : Chain 1000 (pkB q h t s k d n f g ++ x) q1 h1 t1 s1 k1 d1 a1 f1 g1 le be) :
    ((1099511627776 < q.toNat ∨ 1099511627776 < h.toNat ∨ 1099511627776 < t.toNat) ∧ be = true) ∨ (q1 = q.toNat ∧ h1 = h.toNat ∧ t1 = t.toNat ∧ s1 = s ∧ k1 = k ∧ d1 = d ∧ a1 = bysN ⟨(bys n).toArray⟩ ∧ f1 = f ∧ g1 = g ∧ le = x ∧ be = false) := by
  have za : (bysN ⟨(bys n).toArray⟩).length = 32 := by rw [bysN_len, bys_size]
  unfold pkB at H
  generalize bysN ⟨(bys n).toArray⟩ = am at *
  simp only [List.append_assoc] at H
  obtain ⟨l1, b1, l2, b2, l3, b3, l4, b4, l5, b5, l6, b6, l7, b7, l8, b8, c1, c2, c3, c4, c5, c6, c7, c8, c9⟩ := H
  have P8 : b8 = true → be = true := fun e => by rw [e, rText_true] at c9; exact (tri c9).2.2
  have P7 : b7 = true → be = true := fun e => P8 (by rw [e, rText_true] at c8; exact (tri c8).2.2)
  have P6 : b6 = true → be = true := fun e => P7 (by rw [e, rText_true] at c7; exact (tri c7).2.2)
  have P5 : b5 = true → be = true := fun e => P6 (by rw [e, rText_true] at c6; exact (tri c6).2.2)
  have P4 : b4 = true → be = true := fun e => P5 (by rw [e, rText_true] at c5; exact (tri c5).2.2)
  have P3 : b3 = true → be = true := fun e => P4 (by rw [e, rText_true] at c4; exact (tri c4).2.2)
  have P2 : b2 = true → be = true := fun e => P3 (by rw [e, rInt_true] at c3; exact (tri c3).2.2)
  have P1 : b1 = true → be = true := fun e => P2 (by rw [e, rInt_true] at c2; exact (tri c2).2.2)
  rw [rInt_tlv _ _ _ _ hq] at c1
  by_cases m1 : 1099511627776 < q.toNat
  · rw [if_pos m1] at c1
    exact .inl ⟨.inl m1, P1 (tri c1).2.2⟩
  rw [if_neg m1] at c1
  obtain ⟨e1, rfl, rfl⟩ := tri c1
  rw [rInt_tlv _ _ _ _ hh] at c2
  by_cases m2 : 1099511627776 < h.toNat
  · rw [if_pos m2] at c2
    exact .inl ⟨.inr (.inl m2), P2 (tri c2).2.2⟩
  rw [if_neg m2] at c2
  obtain ⟨e2, rfl, rfl⟩ := tri c2
  rw [rInt_tlv _ _ _ _ ht] at c3
  by_cases m3 : 1099511627776 < t.toNat
  · rw [if_pos m3] at c3
    exact .inl ⟨.inr (.inr m3), P3 (tri c3).2.2⟩
  rw [if_neg m3] at c3
  obtain ⟨e3, rfl, rfl⟩ := tri c3
  rw [rText_tlv _ _ _ _ (by omega), if_neg (by omega)] at c4
  obtain ⟨e4, rfl, rfl⟩ := tri c4
  rw [rText_tlv _ _ _ _ (by omega), if_neg (by omega)] at c5
  obtain ⟨e5, rfl, rfl⟩ := tri c5
  rw [rText_tlv _ _ _ _ (by omega), if_neg (by omega)] at c6
  obtain ⟨e6, rfl, rfl⟩ := tri c6
  rw [rText_tlv _ _ _ _ (by omega), if_neg (by omega)] at c7
  obtain ⟨e7, rfl, rfl⟩ := tri c7
  rw [rText_tlv _ _ _ _ (by omega), if_neg (by omega)] at c8
  obtain ⟨e8, rfl, rfl⟩ := tri c8
  rw [rText_tlv _ _ _ _ (by omega), if_neg (by omega)] at c9
  obtain ⟨e9, e10, e11⟩ := tri c9
  exact .inr ⟨e1, e2, e3, e4, e5, e6, e7, e8, e9, e10, e11⟩
theorem unb_bys (n : Nat) (hn : W256 n) : unb (bys n) = n := by
  unfold unb
  have e : ((bys n).reverse.map UInt8.toNat) = digl n 32 := by
    apply List.ext_getElem (by simp [bys, digl])
    intro i h1 h2
    have hi : i < 32 := by simpa [digl] using h2
    simp only [List.getElem_map, List.getElem_reverse, bys, digl, List.getElem_range, List.length_map, List.length_range, byN]
    rw [UInt8.toNat_ofNat', show 31 - (32 - 1 - i) = i by omega]
    exact Nat.mod_eq_of_lt (Nat.mod_lt _ (by decide))
  rw [e, vl_digl, Nat.mod_eq_of_lt hn]
end Go.Proofs.YtbimnfmjgmfijaaDoor
namespace Go.Proofs.YtbimnfmjgmfijaaDoor
open Go.RowKit
attribute [local go_sem ↓] Go.wp_at_zero Go.wp_at_succ
theorem am_of {a : ByteArray} {n : Nat} (h : bysN a = bysN ⟨(bys n).toArray⟩) (hn : W256 n) : a.size = 32 ∧ unb a.data.toList = n := by
  obtain rfl := bysN_inj h
  exact ⟨bys_size n, unb_bys n hn⟩
/-- With a byte behind, it is none. -/
theorem read_more {q h t : Int} {s k d f g x : List Nat} {n : Nat} {T : ByteArray} {w w' : World} {e : Ending} (zs : s.length ≤ 1000) (zk : k.length ≤ 1000) (zd : d.length ≤ 1000) (zf : f.length ≤ 1000) (zg : g.length ≤ 1000)
    (hq : q ≤ 9223372036854775807) (hh : h ≤ 9223372036854775807) (ht : t ≤ 9223372036854775807) (hT : bysN T = pkB q h t s k d n f g ++ x) (hx : x ≠ []) (H : RdRes 1000 T w e w') :
    ∃ (q h t a0 a1 a2 a3 : Int) (s k d f g : ByteArray), e = .returned (.tuple #[pkV q h t a0 a1 a2 a3 s k d f g, .int .i64 10]) := by
  obtain ⟨q1, h1, t1, s1, k1, d1, a1, f1, g1, le, be, hc, _, r⟩ := H
  rw [hT] at hc
  have hE : rEnd le be = true := by
    rcases chain_pkB zs zk zd zf zg hq hh ht hc with ⟨_, hb⟩ | ⟨_, _, _, _, _, _, _, _, _, hl, hb⟩
    · rw [hb]; rfl
    · rw [hl, hb]; unfold rEnd; rw [Bool.false_or]; exact decide_eq_true hx
  rcases r with ⟨_, h2, _, _⟩ | ⟨_, r⟩
  · rw [hE] at h2; cases h2
  · exact ⟨_, _, _, _, _, _, _, _, _, _, _, _, r⟩
/-- A packet that may be is read as it was. -/
theorem read_ok {q h t : Int} {s k d f g : ByteArray} {n : Nat} {T : ByteArray} {w w' : World} {e : Ending} (zs : (bysN s).length ≤ 1000) (zk : (bysN k).length ≤ 1000) (zd : (bysN d).length ≤ 1000) (zf : (bysN f).length ≤ 1000) (zg : (bysN g).length ≤ 1000)
    (hq : q ≤ 9223372036854775807) (hh : h ≤ 9223372036854775807) (ht : t ≤ 9223372036854775807) (hn : W256 n) (hT : bysN T = pkB q h t (bysN s) (bysN k) (bysN d) n (bysN f) (bysN g)) (hok : okP q h t (bysN s) (bysN k) (bysN d) (bysN f) (bysN g) n = true) (H : RdRes 1000 T w e w') :
    e = .returned (.tuple #[pkV q h t (limb n 0) (limb n 1) (limb n 2) (limb n 3) s k d f g, .int .i64 0]) := by
  obtain ⟨q1, h1, t1, s1, k1, d1, a1, f1, g1, le, be, hc, _, r⟩ := H
  have b1 : (1 ≤ q ∧ q ≤ 1099511627776) ∧ (0 ≤ h ∧ h ≤ 1099511627776) ∧ (0 ≤ t ∧ t ≤ 1099511627776) := by
    refine ⟨?_, ?_, ?_⟩
    · exact Classical.byContradiction fun c => by rw [okP_false (.inl c)] at hok; cases hok
    · exact Classical.byContradiction fun c => by rw [okP_false (.inr (.inl c))] at hok; cases hok
    · exact Classical.byContradiction fun c => by rw [okP_false (.inr (.inr (.inl c)))] at hok; cases hok
  have hT2 : bysN T = pkB q h t (bysN s) (bysN k) (bysN d) n (bysN f) (bysN g) ++ [] := by rw [List.append_nil]; exact hT
  rw [hT2] at hc
  rcases chain_pkB zs zk zd zf zg hq hh ht hc with ⟨hbig, _⟩ | ⟨e1, e2, e3, e4, e5, e6, e7, e8, e9, hl, hb⟩
  · omega
  · obtain rfl := bysN_inj e4
    obtain rfl := bysN_inj e5
    obtain rfl := bysN_inj e6
    obtain rfl := bysN_inj e8
    obtain rfl := bysN_inj e9
    obtain ⟨ha, hu⟩ := am_of e7 hn
    have i1 : (q1 : Int) = q := by omega
    have i2 : (h1 : Int) = h := by omega
    have i3 : (t1 : Int) = t := by omega
    rw [hu, i1, i2, i3] at r
    rcases r with ⟨_, _, _, r⟩ | ⟨r, _⟩
    · exact r
    · rcases r with r | r | r
      · exact absurd ha r
      · rw [hl, hb] at r; cases r
      · rw [hok] at r; cases r
/-- One that may not be is none, but for limits below 0. -/
theorem read_no {q h t : Int} {s k d f g : ByteArray} {n : Nat} {T : ByteArray} {w w' : World} {e : Ending} (zs : (bysN s).length ≤ 1000) (zk : (bysN k).length ≤ 1000) (zd : (bysN d).length ≤ 1000) (zf : (bysN f).length ≤ 1000) (zg : (bysN g).length ≤ 1000)
    (hq : q ≤ 9223372036854775807) (hh : h ≤ 9223372036854775807) (ht : t ≤ 9223372036854775807) (hn : W256 n) (hT : bysN T = pkB q h t (bysN s) (bysN k) (bysN d) n (bysN f) (bysN g)) (hok : okP q h t (bysN s) (bysN k) (bysN d) (bysN f) (bysN g) n = false) (h0 : 0 ≤ h) (t0 : 0 ≤ t) (H : RdRes 1000 T w e w') :
    ∃ (q h t a0 a1 a2 a3 : Int) (s k d f g : ByteArray), e = .returned (.tuple #[pkV q h t a0 a1 a2 a3 s k d f g, .int .i64 10]) := by
  obtain ⟨q1, h1, t1, s1, k1, d1, a1, f1, g1, le, be, hc, _, r⟩ := H
  have hT2 : bysN T = pkB q h t (bysN s) (bysN k) (bysN d) n (bysN f) (bysN g) ++ [] := by rw [List.append_nil]; exact hT
  rw [hT2] at hc
  rcases r with ⟨_, z2, z3, _⟩ | ⟨_, r⟩
  · exfalso
    rcases chain_pkB zs zk zd zf zg hq hh ht hc with ⟨_, hb⟩ | ⟨e1, e2, e3, e4, e5, e6, e7, e8, e9, hl, hb⟩
    · rw [hb] at z2; cases z2
    · rw [e4, e5, e6, e8, e9, (am_of e7 hn).2, show (h1 : Int) = h by omega, show (t1 : Int) = t by omega] at z3
      by_cases hq1 : 1 ≤ q
      · rw [show (q1 : Int) = q by omega, hok] at z3; cases z3
      · rw [okP_false (.inl (by omega))] at z3; cases z3
  · exact ⟨_, _, _, _, _, _, _, _, _, _, _, _, r⟩
end Go.Proofs.YtbimnfmjgmfijaaDoor
namespace Go.Proofs.YtbimnfmjgmfijaaDoor
open Go.RowKit
attribute [local go_sem ↓] Go.wp_at_zero Go.wp_at_succ
attribute [local go_sem] conv_f1
set_option maxHeartbeats 4000000 in
set_option maxRecDepth 100000 in
theorem small13_any (q h t a0 a1 a2 a3 : Int) (s k d f g : ByteArray) (w : World) : Calls Tryd.prog 11 #[.agg #[.int .i64 q, .string s, .string k, .string d, .int .u64 a0, .int .u64 a1, .int .u64 a2, .int .u64 a3, .string f, .string g, .int .i64 h, .int .i64 t]] w fun e w' =>
    e = .returned (.agg #[.int .i64 q, .string (shN s 80), .string (shN k 80), .string (shN d 210), .int .u64 a0, .int .u64 a1, .int .u64 a2, .int .u64 a3, .string (shN f 80), .string (shN g 80), .int .i64 h, .int .i64 t]) ∧ Below w.heap.size w w' := by
  go_enter Tryd.func11, Tryd.ntmps11
  go_wp2_with (go_at_call 8; first
    | (have := fl4; refine (short13_any g 80 _).mono ?_; rintro e w' ⟨rfl, rfl⟩)
    | (have := fl3; refine (short13_any f 80 _).mono ?_; rintro e w' ⟨rfl, rfl⟩; have fl4 := True.intro)
    | (have := fl2; refine (short13_any d 210 _).mono ?_; rintro e w' ⟨rfl, rfl⟩; have fl3 := True.intro)
    | (have := fl1; refine (short13_any k 80 _).mono ?_; rintro e w' ⟨rfl, rfl⟩; have fl2 := True.intro)
    | (refine (short13_any s 80 _).mono ?_; rintro e w' ⟨rfl, rfl⟩; have fl1 := True.intro))
  refine bodyPost_ret (v := .agg #[.int .i64 q, .string (shN s 80), .string (shN k 80), .string (shN d 210), .int .u64 a0, .int .u64 a1, .int .u64 a2, .int .u64 a3, .string (shN f 80), .string (shN g 80), .int .i64 h, .int .i64 t]) (by simp [results, Tryd.results11, go_sem]) rfl ⟨rfl, BW_alloc (BW_alloc (BW_refl w) _) _⟩
theorem pkB_len {q h t : Int} {s k d f g : List Nat} {n : Nat} (zs : s.length ≤ 1000) (zk : k.length ≤ 1000) (zd : d.length ≤ 1000) (zf : f.length ≤ 1000) (zg : g.length ≤ 1000) (hq : q ≤ 9223372036854775807) (hh : h ≤ 9223372036854775807) (ht : t ≤ 9223372036854775807) : (pkB q h t s k d n f g).length ≤ 10000 := by
  have a1 := tlvI_len 113 q hq
  have a2 := tlvI_len 104 h hh
  have a3 := tlvI_len 116 t ht
  have za : (bysN ⟨(bys n).toArray⟩).length = 32 := by rw [bysN_len, bys_size]
  unfold pkB
  simp only [List.length_append, tlvT_len]
  omega
set_option maxHeartbeats 4000000 in
set_option maxRecDepth 100000 in
theorem l13back_any (q h t : Int) (s0 k0 d0 f0 g0 : ByteArray) (n c : Nat) (w : World) (hn : W256 n) (hq : q ≤ 9223372036854775807) (hh : h ≤ 9223372036854775807) (ht : t ≤ 9223372036854775807) :
    Calls Tryd.prog 4 #[.agg #[.int .i64 q, .string s0, .string k0, .string d0, .int .u64 (limb n 0), .int .u64 (limb n 1), .int .u64 (limb n 2), .int .u64 (limb n 3), .string f0, .string g0, .int .i64 h, .int .i64 t], .int .u8 (c : Int)] w fun e w' => e = .returned (.bool true) ∧ Below w.heap.size w w' := by
  have xs := shN_size s0 80
  have xk := shN_size k0 80
  have xd := shN_size d0 210
  have xf := shN_size f0 80
  have xg := shN_size g0 80
  have hsm := Lib.hid (fun w => small13_any q h t (limb n 0) (limb n 1) (limb n 2) (limb n 3) s0 k0 d0 f0 g0 w)
  have Hn := Lib.hid hn
  have kk := blk1 w 30 #[.int .i64 q, .string s0, .string k0, .string d0, .int .u64 (limb n 0), .int .u64 (limb n 1), .int .u64 (limb n 2), .int .u64 (limb n 3), .string f0, .string g0, .int .i64 h, .int .i64 t]
  have bb := BW_alloc (BW_refl w) (.cells #[.int .i64 q, .string s0, .string k0, .string d0, .int .u64 (limb n 0), .int .u64 (limb n 1), .int .u64 (limb n 2), .int .u64 (limb n 3), .string f0, .string g0, .int .i64 h, .int .i64 t] 30)
  clear hn
  go_enter Tryd.func4, Tryd.ntmps4
  go_wp2_with (first
    | (go_at_call 7; refine (awake13 _).mono ?_; rintro e w1 ⟨rfl, hb1⟩; replace kk := kk.on hb1; replace bb := BW_on bb hb1; have co1 := (fun i => kk.cell i))
    | (go_at_call 11; refine (hsm.out _).mono ?_))
  rintro e w2 ⟨rfl, hb2⟩
  generalize shN s0 80 = s at *
  generalize shN k0 80 = k at *
  generalize shN d0 210 = d at *
  generalize shN f0 80 = f at *
  generalize shN g0 80 = g at *
  have zs : (bysN s).length ≤ 1000 := by rw [bysN_len]; omega
  have zk : (bysN k).length ≤ 1000 := by rw [bysN_len]; omega
  have zd : (bysN d).length ≤ 1000 := by rw [bysN_len]; omega
  have zf : (bysN f).length ≤ 1000 := by rw [bysN_len]; omega
  have zg : (bysN g).length ≤ 1000 := by rw [bysN_len]; omega
  have Z := Lib.hid (And.intro zs (And.intro zk (And.intro zd (And.intro zf zg))))
  have hpl := Lib.hid (@pkB_len q h t (bysN s) (bysN k) (bysN d) (bysN f) (bysN g) n zs zk zd zf zg hq hh ht)
  clear zs zk zd zf zg hsm
  have k2 := kk.on hb2
  have fo2 := fun i => k2.free i
  have co2 := fun i => k2.cell i
  have k3 := k2.store12 (.int .i64 q) (.string s) (.string k) (.string d) (.int .u64 (limb n 0)) (.int .u64 (limb n 1)) (.int .u64 (limb n 2)) (.int .u64 (limb n 3)) (.string f) (.string g) (.int .i64 h) (.int .i64 t)
  have b3 := below_store12 (BW_on bb hb2) (Nat.le_refl w.heap.size) (.int .i64 q) (.string s) (.string k) (.string d) (.int .u64 (limb n 0)) (.int .u64 (limb n 1)) (.int .u64 (limb n 2)) (.int .u64 (limb n 3)) (.string f) (.string g) (.int .i64 h) (.int .i64 t)
  have co3 := fun i => k3.cell i
  clear kk bb hb2 k2
  go_wp2_with (go_at_call 12; refine (pkbytes_any q h t s k d f g n _ (by omega) (by omega) (by omega) (by omega) (by omega) hq hh ht).mono ?_)
  rintro e w4 ⟨u, rfl, hu, hb4⟩
  have zu : u.size ≤ 10000 := by rw [← bysN_len, hu]; exact hpl.out
  have k4 := k3.on hb4
  have b4 := BW_on b3 hb4
  have Hu := Lib.hid hu
  clear k3 b3 hb4 hu
  go_wp2_with (go_at_call 9; refine (pkread_any u _ (by omega)).mono ?_)
  rintro e w5 h1
  have hb5 := rd_below h1
  have k5 := k4.on hb5
  have b5 := BW_on b4 hb5
  clear k4 b4 hb5
  obtain ⟨u2, hu2, au2⟩ := cat_big u ⟨#[UInt8.ofNat c]⟩ (by show u.size + 1 ≤ _; omega)
  have zu2 : u2.size ≤ 10001 := by rw [← bysN_len, hu2, List.length_append, bysN_len]; show u.size + 1 ≤ 10001; omega
  have Hu2 : Hid (bysN u2 = pkB q h t (bysN s) (bysN k) (bysN d) n (bysN f) (bysN g) ++ bysN ⟨#[UInt8.ofNat c]⟩) := Lib.hid (by rw [hu2, Hu.out])
  clear hu2
  obtain ⟨ok, hok⟩ : ∃ ok, okP q h t (bysN s) (bysN k) (bysN d) (bysN f) (bysN g) n = ok := ⟨_, rfl⟩
  have Hok := Lib.hid hok
  cases ok
  · by_cases h0 : 0 ≤ h
    · by_cases t0 : 0 ≤ t
      · obtain ⟨q1, h1', t1, y0, y1, y2, y3, s1, k1, d1, f1, g1, rfl⟩ := read_no Z.out.1 Z.out.2.1 Z.out.2.2.1 Z.out.2.2.2.1 Z.out.2.2.2.2 hq hh ht Hn.out Hu.out hok h0 t0 h1
        clear h1 h0 t0
        have k6 := k5.alloc (.cells #[.int .i64 q1, .string s1, .string k1, .string d1, .int .u64 y0, .int .u64 y1, .int .u64 y2, .int .u64 y3, .string f1, .string g1, .int .i64 h1', .int .i64 t1] 30)
        have r6 := Blk.new w5 30 #[.int .i64 q1, .string s1, .string k1, .string d1, .int .u64 y0, .int .u64 y1, .int .u64 y2, .int .u64 y3, .string f1, .string g1, .int .i64 h1', .int .i64 t1]
        have b6 := BW_alloc b5 (.cells #[.int .i64 q1, .string s1, .string k1, .string d1, .int .u64 y0, .int .u64 y1, .int .u64 y2, .int .u64 y3, .string f1, .string g1, .int .i64 h1', .int .i64 t1] 30)
        have hcv : (convert 37 9 (.slice (some ⟨w5.heap.size + 1, 0, none⟩) 1 1)).run Tryd.prog ((w5.alloc (.cells #[.int .i64 q1, .string s1, .string k1, .string d1, .int .u64 y0, .int .u64 y1, .int .u64 y2, .int .u64 y3, .string f1, .string g1, .int .i64 h1', .int .i64 t1] 30)).alloc (.cells #[.int .u8 (c : Int)] 5)) = .ok (.string ⟨#[UInt8.ofNat c]⟩) ((w5.alloc (.cells #[.int .i64 q1, .string s1, .string k1, .string d1, .int .u64 y0, .int .u64 y1, .int .u64 y2, .int .u64 y3, .string f1, .string g1, .int .i64 h1', .int .i64 t1] 30)).alloc (.cells #[.int .u8 (c : Int)] 5)) := by have hx := conv_f1 (w5.alloc (.cells #[.int .i64 q1, .string s1, .string k1, .string d1, .int .u64 y0, .int .u64 y1, .int .u64 y2, .int .u64 y3, .string f1, .string g1, .int .i64 h1', .int .i64 t1] 30)) (c : Int) 1; simpa using hx
        clear hok
        go_wp2_with (go_at_call 9; refine (pkread_any u2 _ (by omega)).mono ?_)
        rintro e w7 h2
        have hb7 := rd_below h2
        obtain ⟨q9, h9, t9, x0, x1, x2, x3, s9, k9, d9, f9, g9, rfl⟩ := read_more Z.out.1 Z.out.2.1 Z.out.2.2.1 Z.out.2.2.2.1 Z.out.2.2.2.2 hq hh ht Hu2.out (by intro e; cases e) h2
        have k7 := ((k6.alloc (.cells #[.int .u8 (c : Int)] 5)).on hb7).alloc (.cells #[.int .i64 q9, .string s9, .string k9, .string d9, .int .u64 x0, .int .u64 x1, .int .u64 x2, .int .u64 x3, .string f9, .string g9, .int .i64 h9, .int .i64 t9] 30)
        have r7 := ((r6.alloc (.cells #[.int .u8 (c : Int)] 5)).on hb7).alloc (.cells #[.int .i64 q9, .string s9, .string k9, .string d9, .int .u64 x0, .int .u64 x1, .int .u64 x2, .int .u64 x3, .string f9, .string g9, .int .i64 h9, .int .i64 t9] 30)
        have b7 := BW_alloc (BW_on (BW_alloc b6 (.cells #[.int .u8 (c : Int)] 5)) hb7) (.cells #[.int .i64 q9, .string s9, .string k9, .string d9, .int .u64 x0, .int .u64 x1, .int .u64 x2, .int .u64 x3, .string f9, .string g9, .int .i64 h9, .int .i64 t9] 30)
        have co7 := fun i => k7.cell i
        clear k6 r6 b6 h2
        go_wp2_with (go_at_call 13; refine (check13_any q h t s k d f g n _ (by omega) (by omega) (by omega) (by omega) (by omega) Hn.out).mono ?_)
        rintro e w8 ⟨rfl, hb8⟩
        rw [Hok.out]
        have k8 := k7.on hb8
        have r8 := r7.on hb8
        have co8 := fun i => k8.cell i
        have ro8 := fun i => r8.cell i
        have b8 := BW_on b7 hb8
        skip
        clear k7 r7 b7
        go_wp2_with fail
        go_ret
        exact ⟨by first | rfl | (simp; omega), b8⟩
      · obtain ⟨q1, h1', t1, y0, y1, y2, y3, code, s1, k1, d1, f1, g1, rfl⟩ := rd_form h1
        clear h1 h0
        have k6 := k5.alloc (.cells #[.int .i64 q1, .string s1, .string k1, .string d1, .int .u64 y0, .int .u64 y1, .int .u64 y2, .int .u64 y3, .string f1, .string g1, .int .i64 h1', .int .i64 t1] 30)
        have r6 := Blk.new w5 30 #[.int .i64 q1, .string s1, .string k1, .string d1, .int .u64 y0, .int .u64 y1, .int .u64 y2, .int .u64 y3, .string f1, .string g1, .int .i64 h1', .int .i64 t1]
        have b6 := BW_alloc b5 (.cells #[.int .i64 q1, .string s1, .string k1, .string d1, .int .u64 y0, .int .u64 y1, .int .u64 y2, .int .u64 y3, .string f1, .string g1, .int .i64 h1', .int .i64 t1] 30)
        have hcv : (convert 37 9 (.slice (some ⟨w5.heap.size + 1, 0, none⟩) 1 1)).run Tryd.prog ((w5.alloc (.cells #[.int .i64 q1, .string s1, .string k1, .string d1, .int .u64 y0, .int .u64 y1, .int .u64 y2, .int .u64 y3, .string f1, .string g1, .int .i64 h1', .int .i64 t1] 30)).alloc (.cells #[.int .u8 (c : Int)] 5)) = .ok (.string ⟨#[UInt8.ofNat c]⟩) ((w5.alloc (.cells #[.int .i64 q1, .string s1, .string k1, .string d1, .int .u64 y0, .int .u64 y1, .int .u64 y2, .int .u64 y3, .string f1, .string g1, .int .i64 h1', .int .i64 t1] 30)).alloc (.cells #[.int .u8 (c : Int)] 5)) := by have hx := conv_f1 (w5.alloc (.cells #[.int .i64 q1, .string s1, .string k1, .string d1, .int .u64 y0, .int .u64 y1, .int .u64 y2, .int .u64 y3, .string f1, .string g1, .int .i64 h1', .int .i64 t1] 30)) (c : Int) 1; simpa using hx
        clear hok
        go_wp2_with (go_at_call 9; refine (pkread_any u2 _ (by omega)).mono ?_)
        rintro e w7 h2
        have hb7 := rd_below h2
        obtain ⟨q9, h9, t9, x0, x1, x2, x3, s9, k9, d9, f9, g9, rfl⟩ := read_more Z.out.1 Z.out.2.1 Z.out.2.2.1 Z.out.2.2.2.1 Z.out.2.2.2.2 hq hh ht Hu2.out (by intro e; cases e) h2
        have k7 := ((k6.alloc (.cells #[.int .u8 (c : Int)] 5)).on hb7).alloc (.cells #[.int .i64 q9, .string s9, .string k9, .string d9, .int .u64 x0, .int .u64 x1, .int .u64 x2, .int .u64 x3, .string f9, .string g9, .int .i64 h9, .int .i64 t9] 30)
        have r7 := ((r6.alloc (.cells #[.int .u8 (c : Int)] 5)).on hb7).alloc (.cells #[.int .i64 q9, .string s9, .string k9, .string d9, .int .u64 x0, .int .u64 x1, .int .u64 x2, .int .u64 x3, .string f9, .string g9, .int .i64 h9, .int .i64 t9] 30)
        have b7 := BW_alloc (BW_on (BW_alloc b6 (.cells #[.int .u8 (c : Int)] 5)) hb7) (.cells #[.int .i64 q9, .string s9, .string k9, .string d9, .int .u64 x0, .int .u64 x1, .int .u64 x2, .int .u64 x3, .string f9, .string g9, .int .i64 h9, .int .i64 t9] 30)
        have co7 := fun i => k7.cell i
        clear k6 r6 b6 h2
        go_wp2_with (go_at_call 13; refine (check13_any q h t s k d f g n _ (by omega) (by omega) (by omega) (by omega) (by omega) Hn.out).mono ?_)
        rintro e w8 ⟨rfl, hb8⟩
        rw [Hok.out]
        have k8 := k7.on hb8
        have r8 := r7.on hb8
        have co8 := fun i => k8.cell i
        have ro8 := fun i => r8.cell i
        have b8 := BW_on b7 hb8
        by_cases hc10 : code = 10
        · clear k7 r7 b7
          go_wp2_with fail
          go_ret
          exact ⟨by first | rfl | (simp; omega), b8⟩
        · by_cases hneg : h < 0
          · clear k7 r7 b7
            go_wp2_with fail
            go_ret
            exact ⟨by first | rfl | (simp; omega), b8⟩
          · have t0i : t < 0 := by omega
            clear k7 r7 b7
            go_wp2_with fail
            go_ret
            exact ⟨by first | rfl | (simp; omega), b8⟩
    · obtain ⟨q1, h1', t1, y0, y1, y2, y3, code, s1, k1, d1, f1, g1, rfl⟩ := rd_form h1
      clear h1
      have k6 := k5.alloc (.cells #[.int .i64 q1, .string s1, .string k1, .string d1, .int .u64 y0, .int .u64 y1, .int .u64 y2, .int .u64 y3, .string f1, .string g1, .int .i64 h1', .int .i64 t1] 30)
      have r6 := Blk.new w5 30 #[.int .i64 q1, .string s1, .string k1, .string d1, .int .u64 y0, .int .u64 y1, .int .u64 y2, .int .u64 y3, .string f1, .string g1, .int .i64 h1', .int .i64 t1]
      have b6 := BW_alloc b5 (.cells #[.int .i64 q1, .string s1, .string k1, .string d1, .int .u64 y0, .int .u64 y1, .int .u64 y2, .int .u64 y3, .string f1, .string g1, .int .i64 h1', .int .i64 t1] 30)
      have hcv : (convert 37 9 (.slice (some ⟨w5.heap.size + 1, 0, none⟩) 1 1)).run Tryd.prog ((w5.alloc (.cells #[.int .i64 q1, .string s1, .string k1, .string d1, .int .u64 y0, .int .u64 y1, .int .u64 y2, .int .u64 y3, .string f1, .string g1, .int .i64 h1', .int .i64 t1] 30)).alloc (.cells #[.int .u8 (c : Int)] 5)) = .ok (.string ⟨#[UInt8.ofNat c]⟩) ((w5.alloc (.cells #[.int .i64 q1, .string s1, .string k1, .string d1, .int .u64 y0, .int .u64 y1, .int .u64 y2, .int .u64 y3, .string f1, .string g1, .int .i64 h1', .int .i64 t1] 30)).alloc (.cells #[.int .u8 (c : Int)] 5)) := by have hx := conv_f1 (w5.alloc (.cells #[.int .i64 q1, .string s1, .string k1, .string d1, .int .u64 y0, .int .u64 y1, .int .u64 y2, .int .u64 y3, .string f1, .string g1, .int .i64 h1', .int .i64 t1] 30)) (c : Int) 1; simpa using hx
      clear hok
      go_wp2_with (go_at_call 9; refine (pkread_any u2 _ (by omega)).mono ?_)
      rintro e w7 h2
      have hb7 := rd_below h2
      obtain ⟨q9, h9, t9, x0, x1, x2, x3, s9, k9, d9, f9, g9, rfl⟩ := read_more Z.out.1 Z.out.2.1 Z.out.2.2.1 Z.out.2.2.2.1 Z.out.2.2.2.2 hq hh ht Hu2.out (by intro e; cases e) h2
      have k7 := ((k6.alloc (.cells #[.int .u8 (c : Int)] 5)).on hb7).alloc (.cells #[.int .i64 q9, .string s9, .string k9, .string d9, .int .u64 x0, .int .u64 x1, .int .u64 x2, .int .u64 x3, .string f9, .string g9, .int .i64 h9, .int .i64 t9] 30)
      have r7 := ((r6.alloc (.cells #[.int .u8 (c : Int)] 5)).on hb7).alloc (.cells #[.int .i64 q9, .string s9, .string k9, .string d9, .int .u64 x0, .int .u64 x1, .int .u64 x2, .int .u64 x3, .string f9, .string g9, .int .i64 h9, .int .i64 t9] 30)
      have b7 := BW_alloc (BW_on (BW_alloc b6 (.cells #[.int .u8 (c : Int)] 5)) hb7) (.cells #[.int .i64 q9, .string s9, .string k9, .string d9, .int .u64 x0, .int .u64 x1, .int .u64 x2, .int .u64 x3, .string f9, .string g9, .int .i64 h9, .int .i64 t9] 30)
      have co7 := fun i => k7.cell i
      clear k6 r6 b6 h2
      go_wp2_with (go_at_call 13; refine (check13_any q h t s k d f g n _ (by omega) (by omega) (by omega) (by omega) (by omega) Hn.out).mono ?_)
      rintro e w8 ⟨rfl, hb8⟩
      rw [Hok.out]
      have k8 := k7.on hb8
      have r8 := r7.on hb8
      have co8 := fun i => k8.cell i
      have ro8 := fun i => r8.cell i
      have b8 := BW_on b7 hb8
      by_cases hc10 : code = 10
      · clear k7 r7 b7
        go_wp2_with fail
        go_ret
        exact ⟨by first | rfl | (simp; omega), b8⟩
      · have hneg : h < 0 := by omega
        clear k7 r7 b7
        go_wp2_with fail
        go_ret
        exact ⟨by first | rfl | (simp; omega), b8⟩
  · obtain rfl := read_ok Z.out.1 Z.out.2.1 Z.out.2.2.1 Z.out.2.2.2.1 Z.out.2.2.2.2 hq hh ht Hn.out Hu.out hok h1
    clear h1
    have k6 := k5.alloc (.cells #[.int .i64 q, .string s, .string k, .string d, .int .u64 (limb n 0), .int .u64 (limb n 1), .int .u64 (limb n 2), .int .u64 (limb n 3), .string f, .string g, .int .i64 h, .int .i64 t] 30)
    have r6 := Blk.new w5 30 #[.int .i64 q, .string s, .string k, .string d, .int .u64 (limb n 0), .int .u64 (limb n 1), .int .u64 (limb n 2), .int .u64 (limb n 3), .string f, .string g, .int .i64 h, .int .i64 t]
    have b6 := BW_alloc b5 (.cells #[.int .i64 q, .string s, .string k, .string d, .int .u64 (limb n 0), .int .u64 (limb n 1), .int .u64 (limb n 2), .int .u64 (limb n 3), .string f, .string g, .int .i64 h, .int .i64 t] 30)
    have hcv : (convert 37 9 (.slice (some ⟨w5.heap.size + 1, 0, none⟩) 1 1)).run Tryd.prog ((w5.alloc (.cells #[.int .i64 q, .string s, .string k, .string d, .int .u64 (limb n 0), .int .u64 (limb n 1), .int .u64 (limb n 2), .int .u64 (limb n 3), .string f, .string g, .int .i64 h, .int .i64 t] 30)).alloc (.cells #[.int .u8 (c : Int)] 5)) = .ok (.string ⟨#[UInt8.ofNat c]⟩) ((w5.alloc (.cells #[.int .i64 q, .string s, .string k, .string d, .int .u64 (limb n 0), .int .u64 (limb n 1), .int .u64 (limb n 2), .int .u64 (limb n 3), .string f, .string g, .int .i64 h, .int .i64 t] 30)).alloc (.cells #[.int .u8 (c : Int)] 5)) := by have hx := conv_f1 (w5.alloc (.cells #[.int .i64 q, .string s, .string k, .string d, .int .u64 (limb n 0), .int .u64 (limb n 1), .int .u64 (limb n 2), .int .u64 (limb n 3), .string f, .string g, .int .i64 h, .int .i64 t] 30)) (c : Int) 1; simpa using hx
    clear hok
    go_wp2_with (go_at_call 9; refine (pkread_any u2 _ (by omega)).mono ?_)
    rintro e w7 h2
    have hb7 := rd_below h2
    obtain ⟨q9, h9, t9, x0, x1, x2, x3, s9, k9, d9, f9, g9, rfl⟩ := read_more Z.out.1 Z.out.2.1 Z.out.2.2.1 Z.out.2.2.2.1 Z.out.2.2.2.2 hq hh ht Hu2.out (by intro e; cases e) h2
    have k7 := ((k6.alloc (.cells #[.int .u8 (c : Int)] 5)).on hb7).alloc (.cells #[.int .i64 q9, .string s9, .string k9, .string d9, .int .u64 x0, .int .u64 x1, .int .u64 x2, .int .u64 x3, .string f9, .string g9, .int .i64 h9, .int .i64 t9] 30)
    have r7 := ((r6.alloc (.cells #[.int .u8 (c : Int)] 5)).on hb7).alloc (.cells #[.int .i64 q9, .string s9, .string k9, .string d9, .int .u64 x0, .int .u64 x1, .int .u64 x2, .int .u64 x3, .string f9, .string g9, .int .i64 h9, .int .i64 t9] 30)
    have b7 := BW_alloc (BW_on (BW_alloc b6 (.cells #[.int .u8 (c : Int)] 5)) hb7) (.cells #[.int .i64 q9, .string s9, .string k9, .string d9, .int .u64 x0, .int .u64 x1, .int .u64 x2, .int .u64 x3, .string f9, .string g9, .int .i64 h9, .int .i64 t9] 30)
    have co7 := fun i => k7.cell i
    clear k6 r6 b6 h2
    go_wp2_with (go_at_call 13; refine (check13_any q h t s k d f g n _ (by omega) (by omega) (by omega) (by omega) (by omega) Hn.out).mono ?_)
    rintro e w8 ⟨rfl, hb8⟩
    rw [Hok.out]
    have k8 := k7.on hb8
    have r8 := r7.on hb8
    have co8 := fun i => k8.cell i
    have ro8 := fun i => r8.cell i
    have b8 := BW_on b7 hb8
    have heq := eqPkt_refl q h t (limb n 0) (limb n 1) (limb n 2) (limb n 3) s k d f g
    clear k7 r7 b7
    go_wp2_with fail
    go_ret
    exact ⟨by first | rfl | (simp; omega), b8⟩
end Go.Proofs.YtbimnfmjgmfijaaDoor

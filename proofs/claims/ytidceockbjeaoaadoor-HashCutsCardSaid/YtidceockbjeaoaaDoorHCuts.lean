/- The law HashCuts: however a text is cut into pieces, its hash is the same: for every input (the walk). -/
import Derived.Test.YtidceockbjeaoaaDoorHNil
import Derived.Test.YtidceockbjeaoaaDoorYk
import Derived.Deep.DeepCutAuto
namespace Go.Proofs.YtidceockbjeaoaaDoor
open Go.RowKit
attribute [local go_sem ↓] Go.wp_at_zero Go.wp_at_succ
theorem cut_k (q : Int) (n : Nat) (hn : n ≤ 300) : ∃ A : Nat, A ≤ n ∧ (wrap64 (wrap64 (q.tmod ((n : Int) + 1) + (n : Int)) + 1)).tmod ((n : Int) + 1) = (A : Int) := by
  have t1 := Int.tmod_lt_of_pos q (b := (n : Int) + 1) (by omega)
  have t2 := Int.lt_tmod_of_pos q (b := (n : Int) + 1) (by omega)
  generalize q.tmod ((n : Int) + 1) = x at *
  have h1 : wrap64 (x + (n : Int)) = x + (n : Int) := by unfold wrap64; omega
  rw [h1]
  have h2 : wrap64 (x + (n : Int) + 1) = x + (n : Int) + 1 := by unfold wrap64; omega
  rw [h2]
  have t3 := Int.tmod_lt_of_pos (x + (n : Int) + 1) (b := (n : Int) + 1) (by omega)
  have t4 := Int.tmod_nonneg (a := x + (n : Int) + 1) ((n : Int) + 1) (by omega)
  exact ⟨((x + (n : Int) + 1).tmod ((n : Int) + 1)).toNat, by omega, by omega⟩
def CutS (w0 : World) (gn gh : Nat) (t : ByteArray) (w : World) : Prop := RH w gn (sha (bysN t)) ∧ HSt KK BG w gh (bysN t) ∧ Tabs w ∧ Below w0.heap.size w0 w
theorem CutS.on {w0 w w' : World} {gn gh : Nat} {t : ByteArray} (h : CutS w0 gn gh t w) (hb : Below w.heap.size w w') : CutS w0 gn gh t w' := ⟨h.1.on hb, h.2.1.on hb, h.2.2.1.on hb, BW_on h.2.2.2 hb⟩
theorem HSt.drew {w : World} {g : Nat} {M : List Nat} (h : HSt KK BG w g M) : HSt KK BG w.drew g M := by
  obtain ⟨B, h1, h2, h3, h4⟩ := h
  exact ⟨B, h1, h2, h3, h4.drew⟩
theorem CutS.drew {w0 w : World} {gn gh : Nat} {t : ByteArray} (h : CutS w0 gn gh t w) : CutS w0 gn gh t w.drew := ⟨⟨h.1.1, (World.rangeAt_drew _ _ _ _).2 h.1.2⟩, h.2.1.drew, ⟨h.2.2.1.1, h.2.2.1.2⟩, h.2.2.2.drew⟩
theorem strs4 (w : World) (s1 s2 s3 s4 : ByteArray) : Strs (w.alloc (.cells #[.string s1, .string s2, .string s3, .string s4] 9)) (.slice (some ⟨w.heap.size, 0, none⟩) 4 4) [s1, s2, s3, s4] := ⟨_, 4, rfl, fun _ => ⟨_, _, rfl, fun i hi => by
    have : i = 0 ∨ i = 1 ∨ i = 2 ∨ i = 3 := by simp at hi; omega
    rcases this with rfl | rfl | rfl | rfl <;> (rw [(blk1 w 9 #[.string s1, .string s2, .string s3, .string s4]).cell]; rfl)⟩⟩
theorem cut_all (t : ByteArray) (a b : Nat) (h1 : a ≤ b) : bysN (t.extract 0 a) ++ bysN (t.extract a b) ++ bysN (t.extract b t.size) = bysN t := by
  rw [bysN_extract, bysN_extract, bysN_extract, List.drop_zero, List.take_of_length_le (l := bysN t) (i := t.size) (by rw [bysN_len]; exact Nat.le_refl _)]
  have e1 : (bysN t).take a ++ ((bysN t).take b).drop a = (bysN t).take b := by
    have := List.take_append_drop a ((bysN t).take b)
    rwa [List.take_take, Nat.min_eq_left h1] at this
  rw [e1, List.take_append_drop]
theorem sl_to (t : ByteArray) (a : Nat) (h1 : (a : Int) ≤ (t.size : Int)) (w : World) : (Instr.sliceAt 9 (.string t) none (some (.int .i64 (a : Int))) none).run Tryd.prog w = .ok (.string (t.extract 0 a)) w := by
  go_simp
theorem sl_mid (t : ByteArray) (a b : Nat) (h1 : (a : Int) ≤ (b : Int)) (h2 : (b : Int) ≤ (t.size : Int)) (w : World) : (Instr.sliceAt 9 (.string t) (some (.int .i64 (a : Int))) (some (.int .i64 (b : Int))) none).run Tryd.prog w = .ok (.string (t.extract a b)) w := by
  go_simp
theorem sl_from (t : ByteArray) (b : Nat) (h1 : (b : Int) ≤ (t.size : Int)) (w : World) : (Instr.sliceAt 9 (.string t) (some (.int .i64 (b : Int))) none none).run Tryd.prog w = .ok (.string (t.extract b t.size)) w := by
  go_simp
theorem yi_slice {ops : Array Oper} {S : World → Prop} {op : Oper} {a : Act} (hw : Region.wanted op (yielded ops a.tmps) = true) (ty : TypeId) (x : Operand) (lo hi mx : Option Operand) (ho : op.op = .slice ty x lo hi mx)
    (X : Value) (LO HI MX : Option Value) (hx : a.eval x = X) (hlo : lo.map a.eval = LO) (hhi : hi.map a.eval = HI) (hmx : mx.map a.eval = MX) (v : Value)
    (hr : ∀ w, (Instr.sliceAt ty X LO HI MX).run Tryd.prog w = .ok v w) : YieldsIf Tryd.prog ops S op v a :=
  .inl ⟨hw, fun w _ => by
    unfold execOp
    simp only [ho, hx, hlo, hhi, hmx, Sem.run_bind, Sem.run_pure, Result.andThen_ok, hr]⟩
theorem HSt.other {w w' : World} {g g' : Nat} {M : List Nat} (h : HSt KK BG w g M) (hb : w.grownBy w' (some g')) (hne : g' ≠ g) : HSt KK BG w' g M := by
  obtain ⟨B, h1, h2, h3, h4⟩ := h
  exact ⟨B, h1, h2, h3, h4.grown hb hne⟩
set_option maxHeartbeats 4000000 in
set_option maxRecDepth 100000 in
theorem hcuts_any (s : ByteArray) (q0 q1 : Int) (w : World) (ht : Hid (Tabs w)) :
    Calls Tryd.prog 6 #[.string s, .agg #[.int .i64 q0, .int .i64 q1]] w fun e w' => e = .returned (.bool true) ∧ Below w.heap.size w w' := by
  have hsz := shN_size s 300
  have h1w := ht.out.lt
  have hsh := Lib.hid (short02_any s 300)
  generalize shN s 300 = t at *
  go_enter Tryd.func6, Tryd.ntmps6
  have kq := blk1 w 44 #[.int .i64 q0, .int .i64 q1]
  have hT := Lib.hid (ht.out.on (BW_alloc (BW_refl w) (.cells #[.int .i64 q0, .int .i64 q1] 44)))
  have hb := BW_alloc (BW_refl w) (.cells #[.int .i64 q0, .int .i64 q1] 44)
  go_wp2_with fail
  refine (awake02_any _ hT).mono ?_
  rintro e w1 ⟨rfl, hb1⟩
  replace kq := kq.on hb1
  replace hT := Lib.hid (hT.out.on hb1)
  replace hb := BW_on hb hb1
  have cq := fun i => kq.cell i
  go_wp2_with fail
  refine (hsh.out _).mono ?_
  rintro e w' ⟨rfl, rfl⟩
  have hn0 : (t.size : Int) + 1 ≠ 0 := by omega
  have hw1 : wrap64 ((t.size : Int) + 1) = (t.size : Int) + 1 := by unfold wrap64; omega
  go_upto_if 44 with (fail)
  -- REST
  obtain ⟨A, hA, hAe⟩ := cut_k q0 t.size hsz
  obtain ⟨B, hB, hBe⟩ := cut_k q1 t.size hsz
  rw [hAe, hBe]
  clear hAe hBe cq hn0 hw1 kq hb1
  have hT' := hT
  go_cut [6, 7] (fun s6 s7 wx => (∃ a b : Nat, s6 = .int .i64 (a : Int) ∧ s7 = .int .i64 (b : Int) ∧ a ≤ b ∧ b ≤ t.size) ∧ wx = w1)
  case first =>
    by_cases hab : B < A
    · have hab2 : (B : Int) < (A : Int) := by omega
      go_wp2_with fail
      go_meet
      exact ⟨⟨B, A, rfl, rfl, by omega, hA⟩, rfl⟩
    · have hab2 : ¬ (B : Int) < (A : Int) := by omega
      go_wp2_with fail
      go_meet
      exact ⟨⟨A, B, rfl, rfl, by omega, hB⟩, rfl⟩
  case rest =>
  obtain ⟨⟨a, b, rfl, rfl, hab, hbt⟩, hwc⟩ := hcut
  subst wc
  have ha1 : (a : Int) ≤ (b : Int) := by omega
  have ha2 : (b : Int) ≤ (t.size : Int) := by omega
  have ha3 : (a : Int) ≤ (t.size : Int) := by omega
  have Hcut := Lib.hid (cut_all t a b hab)
  have Hall : Hid (allB [t.extract 0 a, t.extract a b, ⟨#[]⟩, t.extract b t.size] = bysN t) := by
    show bysN _ ++ (bysN _ ++ ([] ++ (bysN _ ++ []))) = _
    rw [List.append_nil, List.nil_append, ← List.append_assoc]
    exact cut_all t a b hab
  have l1 : (t.extract 0 a).size ≤ 300 := by simp; omega
  have l2 : (t.extract a b).size ≤ 300 := by simp; omega
  have l3 : (t.extract b t.size).size ≤ 300 := by simp; omega
  clear hA hB hab hbt
  go_wp2_with fail
  refine (new_any _ hT.out).mono ?_
  rintro e w2 ⟨rfl, hw2⟩
  have hs2 : HSt KK BG w2 w1.heap.size [] := by rw [hw2]; exact HSt.new _
  have hT2 : Tabs w2 := by rw [hw2]; exact hT.out.on (BW_alloc (BW_refl _) _)
  have hb2 : Below w.heap.size w w2 := by rw [hw2]; exact BW_alloc hb _
  have hgh := hb.size
  have h1gh : 1 < w1.heap.size := by omega
  clear hw2 hT hT' hb
  generalize w1.heap.size = gh at *
  go_wp2_with fail
  refine (write_any gh KK BG [] (t.extract 0 a) _ (Lib.hid rfl) (Lib.hid hs2) (by rw [List.length_nil]; omega) h1gh (Lib.hid hT2.2)).mono ?_
  rintro e w3 ⟨rfl, hs3, hg3⟩
  have hT3 := hT2.grown hg3 h1gh
  have hb3 := Below.grownA hb2 hg3 hgh
  go_wp2_with fail
  refine (write_any gh KK BG _ (t.extract a b) _ (Lib.hid rfl) (Lib.hid hs3) (by rw [List.nil_append, bysN_len]; omega) h1gh (Lib.hid hT3.2)).mono ?_
  rintro e w4 ⟨rfl, hs4, hg4⟩
  have hT4 := hT3.grown hg4 h1gh
  have hb4 := Below.grownA hb3 hg4 hgh
  go_wp2_with fail
  refine (write_any gh KK BG _ (t.extract b t.size) _ (Lib.hid rfl) (Lib.hid hs4) (by rw [List.nil_append, List.length_append, bysN_len, bysN_len]; omega) h1gh (Lib.hid hT4.2)).mono ?_
  rintro e w5 ⟨rfl, hs5, hg5⟩
  have hT5 := hT4.grown hg5 h1gh
  have hb5 := Below.grownA hb4 hg5 hgh
  rw [List.nil_append, Hcut.out] at hs5
  clear hs2 hs3 hs4 hT2 hT3 hT4 hb2 hb3 hb4 hg3 hg4 hg5
  go_wp2_with fail
  refine (hof_any _ [t] _ (Lib.hid (strs1 _ _)) (Lib.hid (hT5.on (BW_alloc (BW_refl _) _))) (by show (bysN t ++ []).length ≤ _; rw [List.append_nil, bysN_len]; omega) (by show 1 ≤ 9223372036854775807; decide)).mono ?_
  rintro e w6 ⟨rfl, hb6⟩
  rw [show allB [t] = bysN t from List.append_nil _]
  have hs6 := (hs5.on (BW_alloc (BW_refl _) (.cells #[.string t] 9))).on hb6
  have hT6 := (hT5.on (BW_alloc (BW_refl _) (.cells #[.string t] 9))).on hb6
  have hbb6 := BW_on (BW_alloc hb5 (.cells #[.string t] 9)) hb6
  have hgl : gh < w6.heap.size := by obtain ⟨_, _, _, _, k⟩ := hs6; exact k.lt
  have hl32 : (U8s (sha (bysN t))).length = 32 := by rw [show (U8s (sha (bysN t))).length = (sha (bysN t)).length by simp [U8s]]; exact (sha_IsH _).1
  have kn := blk1 w6 26 (U8s z32).toArray
  have hs7 := hs6.on (BW_alloc (BW_refl _) (.cells (U8s z32).toArray 26))
  have hT7 := hT6.on (BW_alloc (BW_refl _) (.cells (U8s z32).toArray 26))
  have hb7 := BW_alloc hbb6 (.cells (U8s z32).toArray 26)
  unfold shaV
  have Hth : Hid ((w6.alloc (.cells (U8s z32).toArray 26)).there w6.heap.size 0 (U8s (sha (bysN t))).toArray.size) := fun j hj => by
    rw [List.size_toArray, hl32] at hj
    rw [Nat.zero_add]
    exact ⟨by rw [kn.cell, Array.getElem?_eq_getElem hj]; rfl, kn.free j⟩
  have hsz2 : Hid ((Tryd.prog.info? 26).map (·.size) = some (U8s (sha (bysN t))).toArray.size) := by rw [List.size_toArray, hl32]; exact b32_size
  have hszN : Hid ((Tryd.prog.info? 26).map (·.size) = some (U8s (sha (bysN t))).length) := by rw [hl32]; exact b32_size
  have hone : Hid ((U8s (sha (bysN t))).toArray.all (·.oneCell') = true) := all_oneCell_toArray (U8s_one _)
  have hS : CutS w w6.heap.size gh t ((w6.alloc (.cells (U8s z32).toArray 26)).setCells w6.heap.size 0 (U8s (sha (bysN t)))) :=
    ⟨RH.mk' (sha_IsH _) (setCells_all kn _ (by rw [hl32]; rfl)), hs7.other (grown_cells _ _ (World.grownBy.refl _ (some w6.heap.size))) (by omega), hT7.grown (grown_cells _ _ (World.grownBy.refl _ (some w6.heap.size))) (by omega), below_setCells _ _ _ hb7 (by omega)⟩
  have heqN := eq_hash (sha (bysN t)) (sha (bysN t)) (sha_IsH _) (sha_IsH _)
  rw [decide_eq_true rfl] at heqN
  clear kn hs6 hs7 hT6 hT7 hb7 hbb6 hs5 hT5 hb5
  go_upto_region 16 with (first | (refine wpList_store_mid rfl 26 _ _ rfl w6.heap.size 0 (U8s (sha (bysN t))).toArray rfl rfl Hth.out hsz2.out hone.out ?_))
  change Code.wp _ _ _ _ ((w6.alloc (.cells (U8s z32).toArray 26)).setCells w6.heap.size 0 (U8s (sha (bysN t))))
  generalize (w6.alloc (.cells (U8s z32).toArray 26)).setCells w6.heap.size 0 (U8s (sha (bysN t))) = V at *
  generalize w6.heap.size = gn at *
  clear Hth hsz2 hone
  have hsv : shaV (bysN t) = .agg (U8s (sha (bysN t))).toArray := rfl
  have hln := bysN_len t
  have f1 := sl_to t a ha3
  have f2 := sl_mid t a b ha1 ha2
  have f3 := sl_from t b ha2
  clear ha1 ha2 ha3 l1 l2 l3 hgl hl32 hsh ht Hcut
  generalize t.extract 0 a = x1 at *
  generalize t.extract a b = x2 at *
  generalize t.extract b t.size = x3 at *
  have hq : ∀ x y w', (do eqGuard .eql 26 x y (.agg (U8s (sha (bysN t))).toArray) (.agg (U8s (sha (bysN t))).toArray); binOp .eql 26 (.agg (U8s (sha (bysN t))).toArray) (.agg (U8s (sha (bysN t))).toArray) : Sem Value).run Tryd.prog w' = .ok (.bool true) w' := fun x y w' => by have := heqN w'; go_simp
  clear heqN
  refine wp_region_held_drew (S := fun w' => CutS w gn gh t w') (by kernel_rfl) hS.drew (fun hH0 => ?_)
  refine wpAnyH_take (i := 0) (v := .bool true) rfl (by kernel_rfl) (by kernel_rfl) (by kernel_rfl) (fun _ _ _ h => h) (yk_move (by kernel_rfl) _ rfl _ (by kernel_rfl)) hH0 ?_
  refine wpAnyH_take (i := 1) (v := .bool true) rfl (by kernel_rfl) (by kernel_rfl) (by kernel_rfl) (fun _ _ _ h => h) (yk_move (by kernel_rfl) _ rfl _ (by kernel_rfl)) hH0 ?_
  refine wpAnyH_take (i := 2) (v := .pointer (some ⟨gh, 0, none⟩)) rfl (by kernel_rfl) (by kernel_rfl) (by kernel_rfl) (fun _ _ _ h => h) (yk_move (by kernel_rfl) _ rfl _ (by kernel_rfl)) hH0 ?_
  refine wpAnyH_take (i := 4) (v := .agg (U8s (sha (bysN t))).toArray) rfl (by kernel_rfl) (by kernel_rfl) (by kernel_rfl) (fun _ _ _ h => h) (yieldsIf_load_mid (by kernel_rfl) _ _ rfl gn 0 (by kernel_rfl) (U8s (sha (bysN t))) _ (fun _ h => h.1.2) Tryd.underlying26 rfl hszN.out) hH0 ?_
  refine wpAnyH_ready (rs := [3]) (by kernel_rfl) (by simp) ?_
  refine AllReadyH.cons rfl (fun K hK => ?_) AllReadyH.nil
  go_simp
  go_at_call 24
  refine (sum_any gh (bysN t) _ (Lib.hid hH0.2.1) (Lib.hid hH0.2.2.1) (by rw [bysN_len]; omega)).mono ?_
  rintro e w3 ⟨rfl, hd3⟩
  go_wp2_with fail
  refine hK.out _ _ (CutS.on hH0 hd3) (fun hH1 => ?_)
  clear hK K
  refine wpAnyH_take (i := 5) (v := .bool true) rfl (by kernel_rfl) (by kernel_rfl) (by kernel_rfl) (fun _ _ _ h => h) (yk_bin (by kernel_rfl) _ _ _ _ _ rfl (.agg (U8s (sha (bysN t))).toArray) (.agg (U8s (sha (bysN t))).toArray) (by kernel_rfl) (by kernel_rfl) _ (fun w' hw' => hq _ _ w')) hH1 ?_
  refine wpAnyH_take (i := 6) (v := .bool true) rfl (by kernel_rfl) (by kernel_rfl) (by kernel_rfl) (fun _ _ _ h => h) (yk_pick (by kernel_rfl) _ _ _ rfl true (by kernel_rfl) _ (by kernel_rfl)) hH1 ?_
  refine wpAnyH_take (i := 7) (v := .bool true) rfl (by kernel_rfl) (by kernel_rfl) (by kernel_rfl) (fun _ _ _ h => h) (yk_move (by kernel_rfl) _ rfl _ (by kernel_rfl)) hH1 ?_
  refine wpAnyH_take (i := 8) (v := .string t) rfl (by kernel_rfl) (by kernel_rfl) (by kernel_rfl) (fun _ _ _ h => h) (yk_move (by kernel_rfl) _ rfl _ (by kernel_rfl)) hH1 ?_
  refine wpAnyH_take (i := 9) (v := .int .i64 (a : Int)) rfl (by kernel_rfl) (by kernel_rfl) (by kernel_rfl) (fun _ _ _ h => h) (yk_move (by kernel_rfl) _ rfl _ (by kernel_rfl)) hH1 ?_
  refine wpAnyH_take (i := 10) (v := .string x1) rfl (by kernel_rfl) (by kernel_rfl) (by kernel_rfl) (fun _ _ _ h => h) (yk_slice (by kernel_rfl) _ _ _ _ _ rfl (.string t) none (some (.int .i64 (a : Int))) none (by kernel_rfl) (by kernel_rfl) (by kernel_rfl) (by kernel_rfl) _ (fun w' _ => f1 w')) hH1 ?_
  refine wpAnyH_take (i := 11) (v := .string t) rfl (by kernel_rfl) (by kernel_rfl) (by kernel_rfl) (fun _ _ _ h => h) (yk_move (by kernel_rfl) _ rfl _ (by kernel_rfl)) hH1 ?_
  refine wpAnyH_take (i := 12) (v := .int .i64 (a : Int)) rfl (by kernel_rfl) (by kernel_rfl) (by kernel_rfl) (fun _ _ _ h => h) (yk_move (by kernel_rfl) _ rfl _ (by kernel_rfl)) hH1 ?_
  refine wpAnyH_take (i := 13) (v := .int .i64 (b : Int)) rfl (by kernel_rfl) (by kernel_rfl) (by kernel_rfl) (fun _ _ _ h => h) (yk_move (by kernel_rfl) _ rfl _ (by kernel_rfl)) hH1 ?_
  refine wpAnyH_take (i := 14) (v := .string x2) rfl (by kernel_rfl) (by kernel_rfl) (by kernel_rfl) (fun _ _ _ h => h) (yk_slice (by kernel_rfl) _ _ _ _ _ rfl (.string t) (some (.int .i64 (a : Int))) (some (.int .i64 (b : Int))) none (by kernel_rfl) (by kernel_rfl) (by kernel_rfl) (by kernel_rfl) _ (fun w' _ => f2 w')) hH1 ?_
  refine wpAnyH_take (i := 15) (v := .string t) rfl (by kernel_rfl) (by kernel_rfl) (by kernel_rfl) (fun _ _ _ h => h) (yk_move (by kernel_rfl) _ rfl _ (by kernel_rfl)) hH1 ?_
  refine wpAnyH_take (i := 16) (v := .int .i64 (b : Int)) rfl (by kernel_rfl) (by kernel_rfl) (by kernel_rfl) (fun _ _ _ h => h) (yk_move (by kernel_rfl) _ rfl _ (by kernel_rfl)) hH1 ?_
  refine wpAnyH_take (i := 17) (v := .string x3) rfl (by kernel_rfl) (by kernel_rfl) (by kernel_rfl) (fun _ _ _ h => h) (yk_slice (by kernel_rfl) _ _ _ _ _ rfl (.string t) (some (.int .i64 (b : Int))) none none (by kernel_rfl) (by kernel_rfl) (by kernel_rfl) (by kernel_rfl) _ (fun w' _ => f3 w')) hH1 ?_
  refine wpAnyH_take (i := 20) (v := .agg (U8s (sha (bysN t))).toArray) rfl (by kernel_rfl) (by kernel_rfl) (by kernel_rfl) (fun _ _ _ h => h) (yieldsIf_load_mid (by kernel_rfl) _ _ rfl gn 0 (by kernel_rfl) (U8s (sha (bysN t))) _ (fun _ h => h.1.2) Tryd.underlying26 rfl hszN.out) hH1 ?_
  refine wpAnyH_ready (rs := [18]) (by kernel_rfl) (by simp) ?_
  refine AllReadyH.cons rfl (fun K hK => ?_) AllReadyH.nil
  go_simp
  refine hK.out _ _ (CutS.on hH1 (BW_alloc (BW_refl _) _)) (fun hH2 => ?_)
  clear hK K
  refine wpAnyH_ready (rs := [19]) (by kernel_rfl) (by simp) ?_
  refine AllReadyH.cons rfl (fun K hK => ?_) AllReadyH.nil
  go_simp
  go_at_call 17
  refine (hof_any _ [x1, x2, ⟨#[]⟩, x3] _ (Lib.hid (strs4 _ _ _ _ _)) (Lib.hid hH2.2.2.1) (by rw [Hall.out, bysN_len]; omega) (by show 4 ≤ 9223372036854775807; decide)).mono ?_
  rintro e w19 ⟨rfl, hd19⟩
  go_wp2_with fail
  refine hK.out _ _ (CutS.on hH2 hd19) (fun hH3 => ?_)
  clear hK K
  rw [Hall.out]
  refine wpAnyH_take (i := 21) (v := .bool true) rfl (by kernel_rfl) (by kernel_rfl) (by kernel_rfl) (fun _ _ _ h => h) (yk_bin (by kernel_rfl) _ _ _ _ _ rfl (.agg (U8s (sha (bysN t))).toArray) (.agg (U8s (sha (bysN t))).toArray) (by kernel_rfl) (by kernel_rfl) _ (fun w' hw' => hq _ _ w')) hH3 ?_
  refine wpAnyH_take (i := 22) (v := .bool true) rfl (by kernel_rfl) (by kernel_rfl) (by kernel_rfl) (fun _ _ _ h => h) (yk_pick (by kernel_rfl) _ _ _ rfl true (by kernel_rfl) _ (by kernel_rfl)) hH3 ?_
  refine wpAnyH_take (i := 23) (v := .bool true) rfl (by kernel_rfl) (by kernel_rfl) (by kernel_rfl) (fun _ _ _ h => h) (yk_move (by kernel_rfl) _ rfl _ (by kernel_rfl)) hH3 ?_
  refine wpAnyH_take (i := 24) (v := .pointer (some ⟨gh, 0, none⟩)) rfl (by kernel_rfl) (by kernel_rfl) (by kernel_rfl) (fun _ _ _ h => h) (yk_move (by kernel_rfl) _ rfl _ (by kernel_rfl)) hH3 ?_
  refine wpAnyH_take (i := 26) (v := .string t) rfl (by kernel_rfl) (by kernel_rfl) (by kernel_rfl) (fun _ _ _ h => h) (yk_move (by kernel_rfl) _ rfl _ (by kernel_rfl)) hH3 ?_
  refine wpAnyH_take (i := 27) (v := .int .i64 (t.size : Int)) rfl (by kernel_rfl) (by kernel_rfl) (by kernel_rfl) (fun _ _ _ h => h) (yk_len (by kernel_rfl) _ _ rfl (.string t) (by kernel_rfl) _ (fun w' hw' => by go_simp)) hH3 ?_
  refine wpAnyH_ready (rs := [25]) (by kernel_rfl) (by simp) ?_
  refine AllReadyH.cons rfl (fun K hK => ?_) AllReadyH.nil
  go_simp
  go_at_call 25
  refine (len_any gh (bysN t) _ hH3.2.1).mono ?_
  rintro e w25 ⟨rfl, rfl⟩
  go_wp2_with fail
  refine hK.out _ _ (hH3) (fun hH4 => ?_)
  clear hK K
  refine wpAnyH_take (i := 28) (v := .bool true) rfl (by kernel_rfl) (by kernel_rfl) (by kernel_rfl) (fun _ _ _ h => h) (yk_bin (by kernel_rfl) _ _ _ _ _ rfl (.int .i64 (t.size : Int)) (.int .i64 (t.size : Int)) (by kernel_rfl) (by kernel_rfl) _ (fun w' hw' => by go_simp)) hH4 ?_
  refine wpAnyH_take (i := 29) (v := .bool true) rfl (by kernel_rfl) (by kernel_rfl) (by kernel_rfl) (fun _ _ _ h => h) (yk_pick (by kernel_rfl) _ _ _ rfl true (by kernel_rfl) _ (by kernel_rfl)) hH4 ?_
  refine wpAnyH_take (i := 30) (v := .bool true) rfl (by kernel_rfl) (by kernel_rfl) (by kernel_rfl) (fun _ _ _ h => h) (yk_assign (by kernel_rfl) _ rfl _ (by kernel_rfl)) hH4 ?_
  refine wpAnyH_done (by kernel_rfl) ?_ _
  go_wp2_with fail
  go_ret
  exact ⟨rfl, hH4.2.2.2⟩
end Go.Proofs.YtidceockbjeaoaaDoor

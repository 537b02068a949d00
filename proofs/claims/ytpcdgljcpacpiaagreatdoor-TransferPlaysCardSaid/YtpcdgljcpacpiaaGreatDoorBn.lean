/- The document's bank: Move. -/
import Derived.Test.YtpcdgljcpacpiaaGreatDoorBh
namespace Go.Proofs.YtpcdgljcpacpiaaGreatDoor
open Go.RowKit
attribute [local go_sem ↓] Go.wp_at_zero Go.wp_at_succ
theorem may2_no {a b d : ByteArray} {n : Nat} (h : okName (bysN a) = false ∨ okName (bysN b) = false ∨ okDn (bysN d) = false ∨ n = 0) : ¬ may2 a b d n = true := fun e => by
  obtain ⟨h0, h1, h2, h3⟩ := may2_pos e
  rcases h with h | h | h | h
  · rw [h1] at h; cases h
  · rw [h2] at h; cases h
  · rw [h3] at h; cases h
  · exact h0 h
theorem may2_yes {a b d : ByteArray} {n : Nat} (h1 : okName (bysN a) = true) (h2 : okName (bysN b) = true) (h3 : okDn (bysN d) = true) (h4 : n ≠ 0) : may2 a b d n = true := by
  unfold may2
  rw [h1, h2, h3]
  simpa using h4
theorem rmove_no {E : List Ent} {a b d : ByteArray} {n : Nat} (hm : may2 a b d n = true) (h : decide (n ≤ ng E (keyB a d)) = false) : moveL E a b d n = (16, []) := by
  unfold moveL
  rw [if_pos hm, if_neg (of_decide_eq_false h)]
theorem rmove_self {E : List Ent} {a d : ByteArray} {n : Nat} (hm : may2 a a d n = true) (h : decide (n ≤ ng E (keyB a d)) = true) : moveL E a a d n = (0, E) := by
  unfold moveL
  rw [if_pos hm, if_pos (of_decide_eq_true h), if_pos rfl]
theorem rmove_over {E : List Ent} {a b d : ByteArray} {n : Nat} (hm : may2 a b d n = true) (h : decide (n ≤ ng E (keyB a d)) = true) (hne : a ≠ b) (h2 : wOk (ng E (keyB b d) + n) = false) : moveL E a b d n = (17, []) := by
  unfold moveL
  rw [if_pos hm, if_pos (of_decide_eq_true h), if_neg hne, if_neg (by rw [h2]; exact Bool.false_ne_true)]
theorem rmove_yes {E : List Ent} {a b d : ByteArray} {n : Nat} (hm : may2 a b d n = true) (h : decide (n ≤ ng E (keyB a d)) = true) (hne : a ≠ b) (h2 : wOk (ng E (keyB b d) + n) = true) : moveL E a b d n = (0, setL (setL E (keyB a d) (ng E (keyB a d) - n)) (keyB b d) (wN (ng E (keyB b d) + n))) := by
  unfold moveL
  rw [if_pos hm, if_pos (of_decide_eq_true h), if_neg hne, if_pos h2, (wN_of0 h2).1]
set_option maxHeartbeats 16000000 in
set_option maxRecDepth 100000 in
theorem r11move_any (v : Value) (E : List Ent) (a b d : ByteArray) (n : Nat) (w : World) (hv : Ents w v E) (hs : Srt E) (hl : E.length ≤ 1800) (hn : W256 n) :
    Calls Tryz.prog 38 #[v, .string a, .string b, .string d, .agg #[.int .u64 (limb n 0), .int .u64 (limb n 1), .int .u64 (limb n 2), .int .u64 (limb n 3)]] w fun e w' => ∃ v', e = .returned (.tuple #[v', .int .i64 (moveL E a b d n).1]) ∧ Ents w' v' (moveL E a b d n).2 ∧ Below w.heap.size w w' := by
  rcases hR : moveL E a b d n with ⟨x, L⟩
  obtain ⟨q, cap, rfl⟩ := hv.len
  have heq := eqW0 n hn
  have kn := (blk1 w 31 #[.int .u64 (limb n 0), .int .u64 (limb n 1), .int .u64 (limb n 2), .int .u64 (limb n 3)]).alloc (.cells #[.int .u64 0, .int .u64 0, .int .u64 0, .int .u64 0] 31)
  have hb0 := BW_alloc (BW_alloc (BW_refl w) (.cells #[.int .u64 (limb n 0), .int .u64 (limb n 1), .int .u64 (limb n 2), .int .u64 (limb n 3)] 31)) (.cells #[.int .u64 0, .int .u64 0, .int .u64 0, .int .u64 0] 31)
  have cn := fun i => kn.cell i
  go_enter Tryz.func38, Tryz.ntmps38
  go_wp2_with fail
  refine (r11name_any a _).mono ?_
  rintro e w' ⟨rfl, rfl⟩
  go_wp2_with fail
  refine (r11name_any b _).mono ?_
  rintro e w' ⟨rfl, rfl⟩
  go_wp2_with fail
  refine (r11denom_any d _).mono ?_
  rintro e w' ⟨rfl, rfl⟩
  cases hA : okName (bysN a)
  · obtain ⟨rfl, rfl⟩ := Prod.mk.inj ((show moveL E a b d n = (1, []) from if_neg (may2_no (.inl hA))).symm.trans hR)
    clear hR
    go_wp2_with fail
    go_ret2
    exact ⟨_, rfl, Ents.nil _, hb0⟩
  · cases hA2 : okName (bysN b)
    · obtain ⟨rfl, rfl⟩ := Prod.mk.inj ((show moveL E a b d n = (1, []) from if_neg (may2_no (.inr (.inl hA2)))).symm.trans hR)
      clear hR
      go_wp2_with fail
      go_ret2
      exact ⟨_, rfl, Ents.nil _, hb0⟩
    · cases hB : okDn (bysN d)
      · obtain ⟨rfl, rfl⟩ := Prod.mk.inj ((show moveL E a b d n = (1, []) from if_neg (may2_no (.inr (.inr (.inl hB))))).symm.trans hR)
        clear hR
        go_wp2_with fail
        go_ret2
        exact ⟨_, rfl, Ents.nil _, hb0⟩
      · by_cases hz : n = 0
        · obtain ⟨rfl, rfl⟩ := Prod.mk.inj ((show moveL E a b d n = (1, []) from if_neg (may2_no (.inr (.inr (.inr hz))))).symm.trans hR)
          rw [decide_eq_true hz] at heq
          clear hR hz
          go_wp2_with fail
          go_ret2
          exact ⟨_, rfl, Ents.nil _, hb0⟩
        · have hm := may2_yes hA hA2 hB hz
          have za := okName_size hA
          have zb := okName_size hA2
          have zd := okDn_size hB
          rw [decide_eq_false hz] at heq
          have Hz := Lib.hid hz
          clear hz
          go_upto_region 7 with (fail)
          change Code.wp _ _ _ _ ((w.alloc (.cells #[.int .u64 (limb n 0), .int .u64 (limb n 1), .int .u64 (limb n 2), .int .u64 (limb n 3)] 31)).alloc (.cells #[.int .u64 0, .int .u64 0, .int .u64 0, .int .u64 0] 31))
          generalize (w.alloc (.cells #[.int .u64 (limb n 0), .int .u64 (limb n 1), .int .u64 (limb n 2), .int .u64 (limb n 3)] 31)).alloc (.cells #[.int .u64 0, .int .u64 0, .int .u64 0, .int .u64 0] 31) = W at *
          clear cn heq
          have hvW := hv.on hb0
          have hszn := kn.lt
          refine wp_region_held_drew (S := BxS W [(w.heap.size, 31, #[.int .u64 (limb n 0), .int .u64 (limb n 1), .int .u64 (limb n 2), .int .u64 (limb n 3)])]) (by kernel_rfl) ((BxS.nil (BW_refl W)).cons kn).drew (fun hH0 => ?_)
          refine wpAnyH_take (i := 0) (v := .slice q E.length cap) rfl (by kernel_rfl) (by kernel_rfl) (by kernel_rfl) (fun _ _ _ h => h) (yk_move (by kernel_rfl) _ rfl _ (by kernel_rfl)) hH0 ?_
          refine wpAnyH_take (i := 1) (v := .string a) rfl (by kernel_rfl) (by kernel_rfl) (by kernel_rfl) (fun _ _ _ h => h) (yk_move (by kernel_rfl) _ rfl _ (by kernel_rfl)) hH0 ?_
          refine wpAnyH_take (i := 2) (v := .string d) rfl (by kernel_rfl) (by kernel_rfl) (by kernel_rfl) (fun _ _ _ h => h) (yk_move (by kernel_rfl) _ rfl _ (by kernel_rfl)) hH0 ?_
          refine wpAnyH_take (i := 4) (v := .agg #[.int .u64 (limb n 0), .int .u64 (limb n 1), .int .u64 (limb n 2), .int .u64 (limb n 3)]) rfl (by kernel_rfl) (by kernel_rfl) (by kernel_rfl) (fun _ _ _ h => h) (yk_load (by kernel_rfl) _ _ rfl (.pointer (some ⟨w.heap.size, 0, none⟩)) (by kernel_rfl) _ (fun w' hw' => by have c0 := (hw'.bl _ (.head _)).cell 0; have c1 := (hw'.bl _ (.head _)).cell 1; have c2 := (hw'.bl _ (.head _)).cell 2; have c3 := (hw'.bl _ (.head _)).cell 3; go_simp)) hH0 ?_
          refine wpAnyH_ready (rs := [3, 9]) (by kernel_rfl) (by simp) ?_
          refine AllReadyH.cons rfl (fun K hK => ?_) (AllReadyH.cons rfl (fun K hK => ?_) (AllReadyH.nil))
          · go_simp
            go_at_call 24
            refine (r11bal_any _ E a d _ (hvW.on hH0.hb) (by omega) (by omega) (by omega)).mono ?_
            rintro e w3 ⟨rfl, hd3⟩
            go_wp2_with fail
            refine hK.out _ _ (hH0.on hd3) (fun hH1 => ?_)
            clear hK K
            
            refine wpAnyH_ready (rs := [5, 9]) (by kernel_rfl) (by simp) ?_
            refine AllReadyH.cons rfl (fun K hK => ?_) (AllReadyH.cons rfl (fun K hK => ?_) (AllReadyH.nil))
            · go_simp
              go_at_call 23
              refine (rsub_any (ng E (keyB a d)) n (ng_lt _ _) hn _).mono ?_
              rintro e w5 ⟨rfl, hd5⟩
              go_wp2_with fail
              refine hK.out _ _ (hH1.on hd5) (fun hH2 => ?_)
              clear hK K
              
              refine wpAnyH_take (i := 6) (v := .tuple #[.agg #[.int .u64 (limb ((ng E (keyB a d)) - n) 0), .int .u64 (limb ((ng E (keyB a d)) - n) 1), .int .u64 (limb ((ng E (keyB a d)) - n) 2), .int .u64 (limb ((ng E (keyB a d)) - n) 3)], .bool (decide (n ≤ (ng E (keyB a d))))]) rfl (by kernel_rfl) (by kernel_rfl) (by kernel_rfl) (fun _ _ _ h => h) (yk_move (by kernel_rfl) _ rfl _ (by kernel_rfl)) hH2 ?_
              refine wpAnyH_take (i := 7) (v := .agg #[.int .u64 (limb ((ng E (keyB a d)) - n) 0), .int .u64 (limb ((ng E (keyB a d)) - n) 1), .int .u64 (limb ((ng E (keyB a d)) - n) 2), .int .u64 (limb ((ng E (keyB a d)) - n) 3)]) rfl (by kernel_rfl) (by kernel_rfl) (by kernel_rfl) (fun _ _ _ h => h) (yk_ext (by kernel_rfl) _ _ rfl (.tuple #[.agg #[.int .u64 (limb ((ng E (keyB a d)) - n) 0), .int .u64 (limb ((ng E (keyB a d)) - n) 1), .int .u64 (limb ((ng E (keyB a d)) - n) 2), .int .u64 (limb ((ng E (keyB a d)) - n) 3)], .bool (decide (n ≤ (ng E (keyB a d))))]) (by kernel_rfl) _ (fun _ _ => rfl)) hH2 ?_
              refine wpAnyH_take (i := 8) (v := .bool (decide (n ≤ (ng E (keyB a d))))) rfl (by kernel_rfl) (by kernel_rfl) (by kernel_rfl) (fun _ _ _ h => h) (yk_ext (by kernel_rfl) _ _ rfl (.tuple #[.agg #[.int .u64 (limb ((ng E (keyB a d)) - n) 0), .int .u64 (limb ((ng E (keyB a d)) - n) 1), .int .u64 (limb ((ng E (keyB a d)) - n) 2), .int .u64 (limb ((ng E (keyB a d)) - n) 3)], .bool (decide (n ≤ (ng E (keyB a d))))]) (by kernel_rfl) _ (fun _ _ => rfl)) hH2 ?_
              have kz1 : Blk (w5.alloc (.cells #[.int .u64 0, .int .u64 0, .int .u64 0, .int .u64 0] 31)) (w5.heap.size) 31 #[.int .u64 0, .int .u64 0, .int .u64 0, .int .u64 0] := blk1 w5 _ _
              have hzl1 : W.heap.size ≤ w5.heap.size := hH2.hb.size
              refine wpAnyH_ready (rs := [9]) (by kernel_rfl) (by simp) ?_
              refine AllReadyH.cons rfl (fun K hK => ?_) AllReadyH.nil
              go_simp
              refine hK.out _ _ (hH2.on (BW_alloc (BW_refl _) _)) (fun hH3 => ?_)
              clear hK K
              refine wpAnyH_ready (rs := [10]) (by kernel_rfl) (by simp) ?_
              refine AllReadyH.cons rfl (fun K hK => ?_) AllReadyH.nil
              rw [if_pos (by kernel_rfl)]
              refine wp_store_mid _ _ _ rfl w5.heap.size 0 [.int .u64 (limb ((ng E (keyB a d)) - n) 0), .int .u64 (limb ((ng E (keyB a d)) - n) 1), .int .u64 (limb ((ng E (keyB a d)) - n) 2), .int .u64 (limb ((ng E (keyB a d)) - n) 3)].toArray (by kernel_rfl) (by kernel_rfl) (kz1.there (Nat.le_refl 4)) szW (one4' ((ng E (keyB a d)) - n)) ?_
              simp only [Act.put, List.getElem_toArray, List.getElem_cons_zero, List.getElem_cons_succ]
              refine hK.out _ _ (hH3.put (ne1 (by omega)) (by omega) _) (fun hH4 => ?_)
              clear hK K
              refine wpAnyH_take (i := 11) (v := .bool (decide (n ≤ (ng E (keyB a d))))) rfl (by kernel_rfl) (by kernel_rfl) (by kernel_rfl) (fun _ _ _ h => h) (yk_assign (by kernel_rfl) _ rfl _ (by kernel_rfl)) hH4 ?_
              refine wpAnyH_done (by kernel_rfl) ?_ _
              have hB := hH4.hb
              replace kz1 := setCells_all kz1 [.int .u64 (limb ((ng E (keyB a d)) - n) 0), .int .u64 (limb ((ng E (keyB a d)) - n) 1), .int .u64 (limb ((ng E (keyB a d)) - n) 2), .int .u64 (limb ((ng E (keyB a d)) - n) 3)] rfl
              change Exit.then _ _ _ _ ((w5.alloc (.cells #[.int .u64 0, .int .u64 0, .int .u64 0, .int .u64 0] 31)).setCells (w5.heap.size) 0 [.int .u64 (limb ((ng E (keyB a d)) - n) 0), .int .u64 (limb ((ng E (keyB a d)) - n) 1), .int .u64 (limb ((ng E (keyB a d)) - n) 2), .int .u64 (limb ((ng E (keyB a d)) - n) 3)])
              generalize (w5.alloc (.cells #[.int .u64 0, .int .u64 0, .int .u64 0, .int .u64 0] 31)).setCells (w5.heap.size) 0 [.int .u64 (limb ((ng E (keyB a d)) - n) 0), .int .u64 (limb ((ng E (keyB a d)) - n) 1), .int .u64 (limb ((ng E (keyB a d)) - n) 2), .int .u64 (limb ((ng E (keyB a d)) - n) 3)] = Z1 at *
              generalize w5.heap.size = gz1 at *
              clear hH0 hH1 hH2 hH3 hH4 hd3 hd5
              have hb1 := BW_on hb0 hB
              replace kn := kn.on hB
              clear hB
              have hvZ := hv.on hb1
              have hszz := kn.lt
              cases h1 : decide (n ≤ (ng E (keyB a d)))
              · obtain ⟨rfl, rfl⟩ := Prod.mk.inj ((rmove_no hm h1).symm.trans hR)
                clear hR
                go_wp2_with fail
                go_ret2
                exact ⟨_, rfl, Ents.nil _, hb1⟩
              · by_cases hab : a = b
                · subst hab
                  have hbq : (a.toList == a.toList) = true := beq_self_eq_true _
                  obtain ⟨rfl, rfl⟩ := Prod.mk.inj ((rmove_self hm h1).symm.trans hR)
                  clear hR
                  go_wp2_with fail
                  go_ret2
                  exact ⟨_, rfl, hvZ, hb1⟩
                · have hbq : (a.toList == b.toList) = false := by rw [beq_kl]; exact decide_eq_false hab
                  go_upto_region 12 with (fail)
                  refine wp_region_held_drew (S := BxS Z1 [(w.heap.size, 31, #[.int .u64 (limb n 0), .int .u64 (limb n 1), .int .u64 (limb n 2), .int .u64 (limb n 3)])]) (by kernel_rfl) ((BxS.nil (BW_refl Z1)).cons kn).drew (fun hH0 => ?_)
                  refine wpAnyH_take (i := 0) (v := .slice q E.length cap) rfl (by kernel_rfl) (by kernel_rfl) (by kernel_rfl) (fun _ _ _ h => h) (yk_move (by kernel_rfl) _ rfl _ (by kernel_rfl)) hH0 ?_
                  refine wpAnyH_take (i := 1) (v := .string b) rfl (by kernel_rfl) (by kernel_rfl) (by kernel_rfl) (fun _ _ _ h => h) (yk_move (by kernel_rfl) _ rfl _ (by kernel_rfl)) hH0 ?_
                  refine wpAnyH_take (i := 2) (v := .string d) rfl (by kernel_rfl) (by kernel_rfl) (by kernel_rfl) (fun _ _ _ h => h) (yk_move (by kernel_rfl) _ rfl _ (by kernel_rfl)) hH0 ?_
                  refine wpAnyH_take (i := 4) (v := .agg #[.int .u64 (limb n 0), .int .u64 (limb n 1), .int .u64 (limb n 2), .int .u64 (limb n 3)]) rfl (by kernel_rfl) (by kernel_rfl) (by kernel_rfl) (fun _ _ _ h => h) (yk_load (by kernel_rfl) _ _ rfl (.pointer (some ⟨w.heap.size, 0, none⟩)) (by kernel_rfl) _ (fun w' hw' => by have c0 := (hw'.bl _ (.head _)).cell 0; have c1 := (hw'.bl _ (.head _)).cell 1; have c2 := (hw'.bl _ (.head _)).cell 2; have c3 := (hw'.bl _ (.head _)).cell 3; go_simp)) hH0 ?_
                  refine wpAnyH_ready (rs := [3, 9]) (by kernel_rfl) (by simp) ?_
                  refine AllReadyH.cons rfl (fun K hK => ?_) (AllReadyH.cons rfl (fun K hK => ?_) (AllReadyH.nil))
                  · go_simp
                    go_at_call 24
                    refine (r11bal_any _ E b d _ (hvZ.on hH0.hb) (by omega) (by omega) (by omega)).mono ?_
                    rintro e w3 ⟨rfl, hd3⟩
                    go_wp2_with fail
                    refine hK.out _ _ (hH0.on hd3) (fun hH1 => ?_)
                    clear hK K
                    
                    refine wpAnyH_ready (rs := [5, 9]) (by kernel_rfl) (by simp) ?_
                    refine AllReadyH.cons rfl (fun K hK => ?_) (AllReadyH.cons rfl (fun K hK => ?_) (AllReadyH.nil))
                    · go_simp
                      go_at_call 22
                      refine (radd_any (ng E (keyB b d)) n (ng_lt _ _) hn _).mono ?_
                      rintro e w5 ⟨rfl, hd5⟩
                      go_wp2_with fail
                      refine hK.out _ _ (hH1.on hd5) (fun hH2 => ?_)
                      clear hK K
                      
                      refine wpAnyH_take (i := 6) (v := .tuple #[.agg #[.int .u64 (limb (wN ((ng E (keyB b d)) + n)) 0), .int .u64 (limb (wN ((ng E (keyB b d)) + n)) 1), .int .u64 (limb (wN ((ng E (keyB b d)) + n)) 2), .int .u64 (limb (wN ((ng E (keyB b d)) + n)) 3)], .bool (wOk ((ng E (keyB b d)) + n))]) rfl (by kernel_rfl) (by kernel_rfl) (by kernel_rfl) (fun _ _ _ h => h) (yk_move (by kernel_rfl) _ rfl _ (by kernel_rfl)) hH2 ?_
                      refine wpAnyH_take (i := 7) (v := .agg #[.int .u64 (limb (wN ((ng E (keyB b d)) + n)) 0), .int .u64 (limb (wN ((ng E (keyB b d)) + n)) 1), .int .u64 (limb (wN ((ng E (keyB b d)) + n)) 2), .int .u64 (limb (wN ((ng E (keyB b d)) + n)) 3)]) rfl (by kernel_rfl) (by kernel_rfl) (by kernel_rfl) (fun _ _ _ h => h) (yk_ext (by kernel_rfl) _ _ rfl (.tuple #[.agg #[.int .u64 (limb (wN ((ng E (keyB b d)) + n)) 0), .int .u64 (limb (wN ((ng E (keyB b d)) + n)) 1), .int .u64 (limb (wN ((ng E (keyB b d)) + n)) 2), .int .u64 (limb (wN ((ng E (keyB b d)) + n)) 3)], .bool (wOk ((ng E (keyB b d)) + n))]) (by kernel_rfl) _ (fun _ _ => rfl)) hH2 ?_
                      refine wpAnyH_take (i := 8) (v := .bool (wOk ((ng E (keyB b d)) + n))) rfl (by kernel_rfl) (by kernel_rfl) (by kernel_rfl) (fun _ _ _ h => h) (yk_ext (by kernel_rfl) _ _ rfl (.tuple #[.agg #[.int .u64 (limb (wN ((ng E (keyB b d)) + n)) 0), .int .u64 (limb (wN ((ng E (keyB b d)) + n)) 1), .int .u64 (limb (wN ((ng E (keyB b d)) + n)) 2), .int .u64 (limb (wN ((ng E (keyB b d)) + n)) 3)], .bool (wOk ((ng E (keyB b d)) + n))]) (by kernel_rfl) _ (fun _ _ => rfl)) hH2 ?_
                      have kz2 : Blk (w5.alloc (.cells #[.int .u64 0, .int .u64 0, .int .u64 0, .int .u64 0] 31)) (w5.heap.size) 31 #[.int .u64 0, .int .u64 0, .int .u64 0, .int .u64 0] := blk1 w5 _ _
                      have hzl2 : Z1.heap.size ≤ w5.heap.size := hH2.hb.size
                      refine wpAnyH_ready (rs := [9]) (by kernel_rfl) (by simp) ?_
                      refine AllReadyH.cons rfl (fun K hK => ?_) AllReadyH.nil
                      go_simp
                      refine hK.out _ _ (hH2.on (BW_alloc (BW_refl _) _)) (fun hH3 => ?_)
                      clear hK K
                      refine wpAnyH_ready (rs := [10]) (by kernel_rfl) (by simp) ?_
                      refine AllReadyH.cons rfl (fun K hK => ?_) AllReadyH.nil
                      rw [if_pos (by kernel_rfl)]
                      refine wp_store_mid _ _ _ rfl w5.heap.size 0 [.int .u64 (limb (wN ((ng E (keyB b d)) + n)) 0), .int .u64 (limb (wN ((ng E (keyB b d)) + n)) 1), .int .u64 (limb (wN ((ng E (keyB b d)) + n)) 2), .int .u64 (limb (wN ((ng E (keyB b d)) + n)) 3)].toArray (by kernel_rfl) (by kernel_rfl) (kz2.there (Nat.le_refl 4)) szW (one4' (wN ((ng E (keyB b d)) + n))) ?_
                      simp only [Act.put, List.getElem_toArray, List.getElem_cons_zero, List.getElem_cons_succ]
                      refine hK.out _ _ (hH3.put (ne1 (by omega)) (by omega) _) (fun hH4 => ?_)
                      clear hK K
                      refine wpAnyH_take (i := 11) (v := .bool (wOk ((ng E (keyB b d)) + n))) rfl (by kernel_rfl) (by kernel_rfl) (by kernel_rfl) (fun _ _ _ h => h) (yk_assign (by kernel_rfl) _ rfl _ (by kernel_rfl)) hH4 ?_
                      refine wpAnyH_done (by kernel_rfl) ?_ _
                      have hB := hH4.hb
                      replace kz2 := setCells_all kz2 [.int .u64 (limb (wN ((ng E (keyB b d)) + n)) 0), .int .u64 (limb (wN ((ng E (keyB b d)) + n)) 1), .int .u64 (limb (wN ((ng E (keyB b d)) + n)) 2), .int .u64 (limb (wN ((ng E (keyB b d)) + n)) 3)] rfl
                      change Exit.then _ _ _ _ ((w5.alloc (.cells #[.int .u64 0, .int .u64 0, .int .u64 0, .int .u64 0] 31)).setCells (w5.heap.size) 0 [.int .u64 (limb (wN ((ng E (keyB b d)) + n)) 0), .int .u64 (limb (wN ((ng E (keyB b d)) + n)) 1), .int .u64 (limb (wN ((ng E (keyB b d)) + n)) 2), .int .u64 (limb (wN ((ng E (keyB b d)) + n)) 3)])
                      generalize (w5.alloc (.cells #[.int .u64 0, .int .u64 0, .int .u64 0, .int .u64 0] 31)).setCells (w5.heap.size) 0 [.int .u64 (limb (wN ((ng E (keyB b d)) + n)) 0), .int .u64 (limb (wN ((ng E (keyB b d)) + n)) 1), .int .u64 (limb (wN ((ng E (keyB b d)) + n)) 2), .int .u64 (limb (wN ((ng E (keyB b d)) + n)) 3)] = Z2 at *
                      generalize w5.heap.size = gz2 at *
                      clear hH0 hH1 hH2 hH3 hH4 hd3 hd5
                      replace kn := kn.on hB
                      replace kz1 := kz1.on hB
                      have hbZ := BW_on hb1 hB
                      cases h2 : wOk ((ng E (keyB b d)) + n)
                      · obtain ⟨rfl, rfl⟩ := Prod.mk.inj ((rmove_over hm h1 hab h2).symm.trans hR)
                        clear hR
                        go_wp2_with fail
                        go_ret2
                        exact ⟨_, rfl, Ents.nil _, hbZ⟩
                      · obtain ⟨rfl, rfl⟩ := Prod.mk.inj ((rmove_yes hm h1 hab h2).symm.trans hR)
                        clear hR
                        have zk := keyB_size a d
                        have zt := keyB_size b d
                        have C := Lib.hid (fun v w hv => rtwo_any v E (keyB a d) (keyB b d) ((ng E (keyB a d)) - n) (wN ((ng E (keyB b d)) + n)) w hv hs hl (by omega) (by omega) ((ng_lt _ _).sub) (W256.wN _))
                        go_upto_region 15 with (fail)
                        refine wp_region_held_drew (S := BxS w [(gz1, 31, #[.int .u64 (limb ((ng E (keyB a d)) - n) 0), .int .u64 (limb ((ng E (keyB a d)) - n) 1), .int .u64 (limb ((ng E (keyB a d)) - n) 2), .int .u64 (limb ((ng E (keyB a d)) - n) 3)]), (gz2, 31, #[.int .u64 (limb (wN ((ng E (keyB b d)) + n)) 0), .int .u64 (limb (wN ((ng E (keyB b d)) + n)) 1), .int .u64 (limb (wN ((ng E (keyB b d)) + n)) 2), .int .u64 (limb (wN ((ng E (keyB b d)) + n)) 3)])]) (by kernel_rfl) (((BxS.nil hbZ).cons kz2).cons kz1).drew (fun hH0 => ?_)
                        refine wpAnyH_take (i := 0) (v := .slice q E.length cap) rfl (by kernel_rfl) (by kernel_rfl) (by kernel_rfl) (fun _ _ _ h => h) (yk_move (by kernel_rfl) _ rfl _ (by kernel_rfl)) hH0 ?_
                        refine wpAnyH_take (i := 1) (v := .string a) rfl (by kernel_rfl) (by kernel_rfl) (by kernel_rfl) (fun _ _ _ h => h) (yk_move (by kernel_rfl) _ rfl _ (by kernel_rfl)) hH0 ?_
                        refine wpAnyH_take (i := 2) (v := .string d) rfl (by kernel_rfl) (by kernel_rfl) (by kernel_rfl) (fun _ _ _ h => h) (yk_move (by kernel_rfl) _ rfl _ (by kernel_rfl)) hH0 ?_
                        refine wpAnyH_take (i := 4) (v := .agg #[.int .u64 (limb ((ng E (keyB a d)) - n) 0), .int .u64 (limb ((ng E (keyB a d)) - n) 1), .int .u64 (limb ((ng E (keyB a d)) - n) 2), .int .u64 (limb ((ng E (keyB a d)) - n) 3)]) rfl (by kernel_rfl) (by kernel_rfl) (by kernel_rfl) (fun _ _ _ h => h) (yk_load (by kernel_rfl) _ _ rfl (.pointer (some ⟨gz1, 0, none⟩)) (by kernel_rfl) _ (fun w' hw' => by have c0 := (hw'.bl _ (.head _)).cell 0; have c1 := (hw'.bl _ (.head _)).cell 1; have c2 := (hw'.bl _ (.head _)).cell 2; have c3 := (hw'.bl _ (.head _)).cell 3; go_simp)) hH0 ?_
                        refine wpAnyH_take (i := 5) (v := .string b) rfl (by kernel_rfl) (by kernel_rfl) (by kernel_rfl) (fun _ _ _ h => h) (yk_move (by kernel_rfl) _ rfl _ (by kernel_rfl)) hH0 ?_
                        refine wpAnyH_take (i := 6) (v := .string d) rfl (by kernel_rfl) (by kernel_rfl) (by kernel_rfl) (fun _ _ _ h => h) (yk_move (by kernel_rfl) _ rfl _ (by kernel_rfl)) hH0 ?_
                        refine wpAnyH_take (i := 8) (v := .agg #[.int .u64 (limb (wN ((ng E (keyB b d)) + n)) 0), .int .u64 (limb (wN ((ng E (keyB b d)) + n)) 1), .int .u64 (limb (wN ((ng E (keyB b d)) + n)) 2), .int .u64 (limb (wN ((ng E (keyB b d)) + n)) 3)]) rfl (by kernel_rfl) (by kernel_rfl) (by kernel_rfl) (fun _ _ _ h => h) (yk_load (by kernel_rfl) _ _ rfl (.pointer (some ⟨gz2, 0, none⟩)) (by kernel_rfl) _ (fun w' hw' => by have c0 := (hw'.bl _ (.tail _ (.head _))).cell 0; have c1 := (hw'.bl _ (.tail _ (.head _))).cell 1; have c2 := (hw'.bl _ (.tail _ (.head _))).cell 2; have c3 := (hw'.bl _ (.tail _ (.head _))).cell 3; go_simp)) hH0 ?_
                        refine wpAnyH_ready (rs := [3]) (by kernel_rfl) (by simp) ?_
                        refine AllReadyH.cons rfl (fun K hK => ?_) AllReadyH.nil
                        go_simp
                        go_at_call 54
                        refine (r11key_any a d _ (by omega) (by omega)).mono ?_
                        rintro e w3 ⟨rfl, hd3⟩
                        go_wp2_with fail
                        refine hK.out _ _ (hH0.on hd3) (fun hH1 => ?_)
                        clear hK K
                        refine wpAnyH_ready (rs := [7]) (by kernel_rfl) (by simp) ?_
                        refine AllReadyH.cons rfl (fun K hK => ?_) AllReadyH.nil
                        go_simp
                        go_at_call 54
                        refine (r11key_any b d _ (by omega) (by omega)).mono ?_
                        rintro e w7 ⟨rfl, hd7⟩
                        go_wp2_with fail
                        refine hK.out _ _ (hH1.on hd7) (fun hH2 => ?_)
                        clear hK K
                        refine wpAnyH_ready (rs := [9]) (by kernel_rfl) (by simp) ?_
                        refine AllReadyH.cons rfl (fun K hK => ?_) AllReadyH.nil
                        go_simp
                        go_at_call 61
                        refine (C.out _ _ (hv.on hH2.hb)).mono ?_
                        rintro e w9 ⟨v3, rfl, hen, hd9⟩
                        go_wp2_with fail
                        refine hK.out _ _ (hH2.on hd9) (fun hH3 => ?_)
                        clear hK K
                        refine wpAnyH_take (i := 10) (v := v3) rfl (by kernel_rfl) (by kernel_rfl) (by kernel_rfl) (fun _ _ _ h => h) (yk_ext (by kernel_rfl) _ _ rfl (.tuple #[v3, .int .i64 0]) (by kernel_rfl) _ (fun _ _ => rfl)) hH3 ?_
                        refine wpAnyH_take (i := 11) (v := .int .i64 0) rfl (by kernel_rfl) (by kernel_rfl) (by kernel_rfl) (fun _ _ _ h => h) (yk_ext (by kernel_rfl) _ _ rfl (.tuple #[v3, .int .i64 0]) (by kernel_rfl) _ (fun _ _ => rfl)) hH3 ?_
                        refine wpAnyH_take (i := 12) (v := v3) rfl (by kernel_rfl) (by kernel_rfl) (by kernel_rfl) (fun _ _ _ h => h) (yk_assign (by kernel_rfl) _ rfl _ (by kernel_rfl)) hH3 ?_
                        refine wpAnyH_take (i := 13) (v := .int .i64 0) rfl (by kernel_rfl) (by kernel_rfl) (by kernel_rfl) (fun _ _ _ h => h) (yk_assign (by kernel_rfl) _ rfl _ (by kernel_rfl)) hH3 ?_
                        refine wpAnyH_done (by kernel_rfl) ?_ _
                        have hbf := hH3.hb
                        go_wp2_with fail
                        go_ret2
                        exact ⟨v3, rfl, hen, hbf⟩
                    · have kz2 : Blk (w3.alloc (.cells #[.int .u64 0, .int .u64 0, .int .u64 0, .int .u64 0] 31)) (w3.heap.size) 31 #[.int .u64 0, .int .u64 0, .int .u64 0, .int .u64 0] := blk1 w3 _ _
                      have hzl2 : Z1.heap.size ≤ w3.heap.size := hH1.hb.size
                      go_simp
                      refine hK.out _ _ (hH1.on (BW_alloc (BW_refl _) _)) (fun hH2 => ?_)
                      clear hK K
                      refine wpAnyH_ready (rs := [5]) (by kernel_rfl) (by simp) ?_
                      refine AllReadyH.cons rfl (fun K hK => ?_) AllReadyH.nil
                      go_simp
                      go_at_call 22
                      refine (radd_any (ng E (keyB b d)) n (ng_lt _ _) hn _).mono ?_
                      rintro e w5 ⟨rfl, hd5⟩
                      go_wp2_with fail
                      refine hK.out _ _ (hH2.on hd5) (fun hH3 => ?_)
                      clear hK K
                      replace kz2 := kz2.on hd5
                      refine wpAnyH_take (i := 6) (v := .tuple #[.agg #[.int .u64 (limb (wN ((ng E (keyB b d)) + n)) 0), .int .u64 (limb (wN ((ng E (keyB b d)) + n)) 1), .int .u64 (limb (wN ((ng E (keyB b d)) + n)) 2), .int .u64 (limb (wN ((ng E (keyB b d)) + n)) 3)], .bool (wOk ((ng E (keyB b d)) + n))]) rfl (by kernel_rfl) (by kernel_rfl) (by kernel_rfl) (fun _ _ _ h => h) (yk_move (by kernel_rfl) _ rfl _ (by kernel_rfl)) hH3 ?_
                      refine wpAnyH_take (i := 7) (v := .agg #[.int .u64 (limb (wN ((ng E (keyB b d)) + n)) 0), .int .u64 (limb (wN ((ng E (keyB b d)) + n)) 1), .int .u64 (limb (wN ((ng E (keyB b d)) + n)) 2), .int .u64 (limb (wN ((ng E (keyB b d)) + n)) 3)]) rfl (by kernel_rfl) (by kernel_rfl) (by kernel_rfl) (fun _ _ _ h => h) (yk_ext (by kernel_rfl) _ _ rfl (.tuple #[.agg #[.int .u64 (limb (wN ((ng E (keyB b d)) + n)) 0), .int .u64 (limb (wN ((ng E (keyB b d)) + n)) 1), .int .u64 (limb (wN ((ng E (keyB b d)) + n)) 2), .int .u64 (limb (wN ((ng E (keyB b d)) + n)) 3)], .bool (wOk ((ng E (keyB b d)) + n))]) (by kernel_rfl) _ (fun _ _ => rfl)) hH3 ?_
                      refine wpAnyH_take (i := 8) (v := .bool (wOk ((ng E (keyB b d)) + n))) rfl (by kernel_rfl) (by kernel_rfl) (by kernel_rfl) (fun _ _ _ h => h) (yk_ext (by kernel_rfl) _ _ rfl (.tuple #[.agg #[.int .u64 (limb (wN ((ng E (keyB b d)) + n)) 0), .int .u64 (limb (wN ((ng E (keyB b d)) + n)) 1), .int .u64 (limb (wN ((ng E (keyB b d)) + n)) 2), .int .u64 (limb (wN ((ng E (keyB b d)) + n)) 3)], .bool (wOk ((ng E (keyB b d)) + n))]) (by kernel_rfl) _ (fun _ _ => rfl)) hH3 ?_
                      refine wpAnyH_ready (rs := [10]) (by kernel_rfl) (by simp) ?_
                      refine AllReadyH.cons rfl (fun K hK => ?_) AllReadyH.nil
                      rw [if_pos (by kernel_rfl)]
                      refine wp_store_mid _ _ _ rfl w3.heap.size 0 [.int .u64 (limb (wN ((ng E (keyB b d)) + n)) 0), .int .u64 (limb (wN ((ng E (keyB b d)) + n)) 1), .int .u64 (limb (wN ((ng E (keyB b d)) + n)) 2), .int .u64 (limb (wN ((ng E (keyB b d)) + n)) 3)].toArray (by kernel_rfl) (by kernel_rfl) (kz2.there (Nat.le_refl 4)) szW (one4' (wN ((ng E (keyB b d)) + n))) ?_
                      simp only [Act.put, List.getElem_toArray, List.getElem_cons_zero, List.getElem_cons_succ]
                      refine hK.out _ _ (hH3.put (ne1 (by omega)) (by omega) _) (fun hH4 => ?_)
                      clear hK K
                      refine wpAnyH_take (i := 11) (v := .bool (wOk ((ng E (keyB b d)) + n))) rfl (by kernel_rfl) (by kernel_rfl) (by kernel_rfl) (fun _ _ _ h => h) (yk_assign (by kernel_rfl) _ rfl _ (by kernel_rfl)) hH4 ?_
                      refine wpAnyH_done (by kernel_rfl) ?_ _
                      have hB := hH4.hb
                      replace kz2 := setCells_all kz2 [.int .u64 (limb (wN ((ng E (keyB b d)) + n)) 0), .int .u64 (limb (wN ((ng E (keyB b d)) + n)) 1), .int .u64 (limb (wN ((ng E (keyB b d)) + n)) 2), .int .u64 (limb (wN ((ng E (keyB b d)) + n)) 3)] rfl
                      change Exit.then _ _ _ _ (w5.setCells (w3.heap.size) 0 [.int .u64 (limb (wN ((ng E (keyB b d)) + n)) 0), .int .u64 (limb (wN ((ng E (keyB b d)) + n)) 1), .int .u64 (limb (wN ((ng E (keyB b d)) + n)) 2), .int .u64 (limb (wN ((ng E (keyB b d)) + n)) 3)])
                      generalize w5.setCells (w3.heap.size) 0 [.int .u64 (limb (wN ((ng E (keyB b d)) + n)) 0), .int .u64 (limb (wN ((ng E (keyB b d)) + n)) 1), .int .u64 (limb (wN ((ng E (keyB b d)) + n)) 2), .int .u64 (limb (wN ((ng E (keyB b d)) + n)) 3)] = Z2 at *
                      generalize w3.heap.size = gz2 at *
                      clear hH0 hH1 hH2 hH3 hH4 hd3 hd5
                      replace kn := kn.on hB
                      replace kz1 := kz1.on hB
                      have hbZ := BW_on hb1 hB
                      cases h2 : wOk ((ng E (keyB b d)) + n)
                      · obtain ⟨rfl, rfl⟩ := Prod.mk.inj ((rmove_over hm h1 hab h2).symm.trans hR)
                        clear hR
                        go_wp2_with fail
                        go_ret2
                        exact ⟨_, rfl, Ents.nil _, hbZ⟩
                      · obtain ⟨rfl, rfl⟩ := Prod.mk.inj ((rmove_yes hm h1 hab h2).symm.trans hR)
                        clear hR
                        have zk := keyB_size a d
                        have zt := keyB_size b d
                        have C := Lib.hid (fun v w hv => rtwo_any v E (keyB a d) (keyB b d) ((ng E (keyB a d)) - n) (wN ((ng E (keyB b d)) + n)) w hv hs hl (by omega) (by omega) ((ng_lt _ _).sub) (W256.wN _))
                        go_upto_region 15 with (fail)
                        refine wp_region_held_drew (S := BxS w [(gz1, 31, #[.int .u64 (limb ((ng E (keyB a d)) - n) 0), .int .u64 (limb ((ng E (keyB a d)) - n) 1), .int .u64 (limb ((ng E (keyB a d)) - n) 2), .int .u64 (limb ((ng E (keyB a d)) - n) 3)]), (gz2, 31, #[.int .u64 (limb (wN ((ng E (keyB b d)) + n)) 0), .int .u64 (limb (wN ((ng E (keyB b d)) + n)) 1), .int .u64 (limb (wN ((ng E (keyB b d)) + n)) 2), .int .u64 (limb (wN ((ng E (keyB b d)) + n)) 3)])]) (by kernel_rfl) (((BxS.nil hbZ).cons kz2).cons kz1).drew (fun hH0 => ?_)
                        refine wpAnyH_take (i := 0) (v := .slice q E.length cap) rfl (by kernel_rfl) (by kernel_rfl) (by kernel_rfl) (fun _ _ _ h => h) (yk_move (by kernel_rfl) _ rfl _ (by kernel_rfl)) hH0 ?_
                        refine wpAnyH_take (i := 1) (v := .string a) rfl (by kernel_rfl) (by kernel_rfl) (by kernel_rfl) (fun _ _ _ h => h) (yk_move (by kernel_rfl) _ rfl _ (by kernel_rfl)) hH0 ?_
                        refine wpAnyH_take (i := 2) (v := .string d) rfl (by kernel_rfl) (by kernel_rfl) (by kernel_rfl) (fun _ _ _ h => h) (yk_move (by kernel_rfl) _ rfl _ (by kernel_rfl)) hH0 ?_
                        refine wpAnyH_take (i := 4) (v := .agg #[.int .u64 (limb ((ng E (keyB a d)) - n) 0), .int .u64 (limb ((ng E (keyB a d)) - n) 1), .int .u64 (limb ((ng E (keyB a d)) - n) 2), .int .u64 (limb ((ng E (keyB a d)) - n) 3)]) rfl (by kernel_rfl) (by kernel_rfl) (by kernel_rfl) (fun _ _ _ h => h) (yk_load (by kernel_rfl) _ _ rfl (.pointer (some ⟨gz1, 0, none⟩)) (by kernel_rfl) _ (fun w' hw' => by have c0 := (hw'.bl _ (.head _)).cell 0; have c1 := (hw'.bl _ (.head _)).cell 1; have c2 := (hw'.bl _ (.head _)).cell 2; have c3 := (hw'.bl _ (.head _)).cell 3; go_simp)) hH0 ?_
                        refine wpAnyH_take (i := 5) (v := .string b) rfl (by kernel_rfl) (by kernel_rfl) (by kernel_rfl) (fun _ _ _ h => h) (yk_move (by kernel_rfl) _ rfl _ (by kernel_rfl)) hH0 ?_
                        refine wpAnyH_take (i := 6) (v := .string d) rfl (by kernel_rfl) (by kernel_rfl) (by kernel_rfl) (fun _ _ _ h => h) (yk_move (by kernel_rfl) _ rfl _ (by kernel_rfl)) hH0 ?_
                        refine wpAnyH_take (i := 8) (v := .agg #[.int .u64 (limb (wN ((ng E (keyB b d)) + n)) 0), .int .u64 (limb (wN ((ng E (keyB b d)) + n)) 1), .int .u64 (limb (wN ((ng E (keyB b d)) + n)) 2), .int .u64 (limb (wN ((ng E (keyB b d)) + n)) 3)]) rfl (by kernel_rfl) (by kernel_rfl) (by kernel_rfl) (fun _ _ _ h => h) (yk_load (by kernel_rfl) _ _ rfl (.pointer (some ⟨gz2, 0, none⟩)) (by kernel_rfl) _ (fun w' hw' => by have c0 := (hw'.bl _ (.tail _ (.head _))).cell 0; have c1 := (hw'.bl _ (.tail _ (.head _))).cell 1; have c2 := (hw'.bl _ (.tail _ (.head _))).cell 2; have c3 := (hw'.bl _ (.tail _ (.head _))).cell 3; go_simp)) hH0 ?_
                        refine wpAnyH_ready (rs := [3]) (by kernel_rfl) (by simp) ?_
                        refine AllReadyH.cons rfl (fun K hK => ?_) AllReadyH.nil
                        go_simp
                        go_at_call 54
                        refine (r11key_any a d _ (by omega) (by omega)).mono ?_
                        rintro e w3 ⟨rfl, hd3⟩
                        go_wp2_with fail
                        refine hK.out _ _ (hH0.on hd3) (fun hH1 => ?_)
                        clear hK K
                        refine wpAnyH_ready (rs := [7]) (by kernel_rfl) (by simp) ?_
                        refine AllReadyH.cons rfl (fun K hK => ?_) AllReadyH.nil
                        go_simp
                        go_at_call 54
                        refine (r11key_any b d _ (by omega) (by omega)).mono ?_
                        rintro e w7 ⟨rfl, hd7⟩
                        go_wp2_with fail
                        refine hK.out _ _ (hH1.on hd7) (fun hH2 => ?_)
                        clear hK K
                        refine wpAnyH_ready (rs := [9]) (by kernel_rfl) (by simp) ?_
                        refine AllReadyH.cons rfl (fun K hK => ?_) AllReadyH.nil
                        go_simp
                        go_at_call 61
                        refine (C.out _ _ (hv.on hH2.hb)).mono ?_
                        rintro e w9 ⟨v3, rfl, hen, hd9⟩
                        go_wp2_with fail
                        refine hK.out _ _ (hH2.on hd9) (fun hH3 => ?_)
                        clear hK K
                        refine wpAnyH_take (i := 10) (v := v3) rfl (by kernel_rfl) (by kernel_rfl) (by kernel_rfl) (fun _ _ _ h => h) (yk_ext (by kernel_rfl) _ _ rfl (.tuple #[v3, .int .i64 0]) (by kernel_rfl) _ (fun _ _ => rfl)) hH3 ?_
                        refine wpAnyH_take (i := 11) (v := .int .i64 0) rfl (by kernel_rfl) (by kernel_rfl) (by kernel_rfl) (fun _ _ _ h => h) (yk_ext (by kernel_rfl) _ _ rfl (.tuple #[v3, .int .i64 0]) (by kernel_rfl) _ (fun _ _ => rfl)) hH3 ?_
                        refine wpAnyH_take (i := 12) (v := v3) rfl (by kernel_rfl) (by kernel_rfl) (by kernel_rfl) (fun _ _ _ h => h) (yk_assign (by kernel_rfl) _ rfl _ (by kernel_rfl)) hH3 ?_
                        refine wpAnyH_take (i := 13) (v := .int .i64 0) rfl (by kernel_rfl) (by kernel_rfl) (by kernel_rfl) (fun _ _ _ h => h) (yk_assign (by kernel_rfl) _ rfl _ (by kernel_rfl)) hH3 ?_
                        refine wpAnyH_done (by kernel_rfl) ?_ _
                        have hbf := hH3.hb
                        go_wp2_with fail
                        go_ret2
                        exact ⟨v3, rfl, hen, hbf⟩
                  · have kz2 : Blk (Z1.drew.alloc (.cells #[.int .u64 0, .int .u64 0, .int .u64 0, .int .u64 0] 31)) (Z1.heap.size) 31 #[.int .u64 0, .int .u64 0, .int .u64 0, .int .u64 0] := blk1 Z1.drew _ _
                    have hzl2 : Z1.heap.size ≤ Z1.heap.size := hH0.hb.size
                    go_simp
                    refine hK.out _ _ (hH0.on (BW_alloc (BW_refl _) _)) (fun hH1 => ?_)
                    clear hK K
                    refine wpAnyH_ready (rs := [3]) (by kernel_rfl) (by simp) ?_
                    refine AllReadyH.cons rfl (fun K hK => ?_) AllReadyH.nil
                    go_simp
                    go_at_call 24
                    refine (r11bal_any _ E b d _ (hvZ.on hH1.hb) (by omega) (by omega) (by omega)).mono ?_
                    rintro e w3 ⟨rfl, hd3⟩
                    go_wp2_with fail
                    refine hK.out _ _ (hH1.on hd3) (fun hH2 => ?_)
                    clear hK K
                    replace kz2 := kz2.on hd3
                    refine wpAnyH_ready (rs := [5]) (by kernel_rfl) (by simp) ?_
                    refine AllReadyH.cons rfl (fun K hK => ?_) AllReadyH.nil
                    go_simp
                    go_at_call 22
                    refine (radd_any (ng E (keyB b d)) n (ng_lt _ _) hn _).mono ?_
                    rintro e w5 ⟨rfl, hd5⟩
                    go_wp2_with fail
                    refine hK.out _ _ (hH2.on hd5) (fun hH3 => ?_)
                    clear hK K
                    replace kz2 := kz2.on hd5
                    refine wpAnyH_take (i := 6) (v := .tuple #[.agg #[.int .u64 (limb (wN ((ng E (keyB b d)) + n)) 0), .int .u64 (limb (wN ((ng E (keyB b d)) + n)) 1), .int .u64 (limb (wN ((ng E (keyB b d)) + n)) 2), .int .u64 (limb (wN ((ng E (keyB b d)) + n)) 3)], .bool (wOk ((ng E (keyB b d)) + n))]) rfl (by kernel_rfl) (by kernel_rfl) (by kernel_rfl) (fun _ _ _ h => h) (yk_move (by kernel_rfl) _ rfl _ (by kernel_rfl)) hH3 ?_
                    refine wpAnyH_take (i := 7) (v := .agg #[.int .u64 (limb (wN ((ng E (keyB b d)) + n)) 0), .int .u64 (limb (wN ((ng E (keyB b d)) + n)) 1), .int .u64 (limb (wN ((ng E (keyB b d)) + n)) 2), .int .u64 (limb (wN ((ng E (keyB b d)) + n)) 3)]) rfl (by kernel_rfl) (by kernel_rfl) (by kernel_rfl) (fun _ _ _ h => h) (yk_ext (by kernel_rfl) _ _ rfl (.tuple #[.agg #[.int .u64 (limb (wN ((ng E (keyB b d)) + n)) 0), .int .u64 (limb (wN ((ng E (keyB b d)) + n)) 1), .int .u64 (limb (wN ((ng E (keyB b d)) + n)) 2), .int .u64 (limb (wN ((ng E (keyB b d)) + n)) 3)], .bool (wOk ((ng E (keyB b d)) + n))]) (by kernel_rfl) _ (fun _ _ => rfl)) hH3 ?_
                    refine wpAnyH_take (i := 8) (v := .bool (wOk ((ng E (keyB b d)) + n))) rfl (by kernel_rfl) (by kernel_rfl) (by kernel_rfl) (fun _ _ _ h => h) (yk_ext (by kernel_rfl) _ _ rfl (.tuple #[.agg #[.int .u64 (limb (wN ((ng E (keyB b d)) + n)) 0), .int .u64 (limb (wN ((ng E (keyB b d)) + n)) 1), .int .u64 (limb (wN ((ng E (keyB b d)) + n)) 2), .int .u64 (limb (wN ((ng E (keyB b d)) + n)) 3)], .bool (wOk ((ng E (keyB b d)) + n))]) (by kernel_rfl) _ (fun _ _ => rfl)) hH3 ?_
                    refine wpAnyH_ready (rs := [10]) (by kernel_rfl) (by simp) ?_
                    refine AllReadyH.cons rfl (fun K hK => ?_) AllReadyH.nil
                    rw [if_pos (by kernel_rfl)]
                    refine wp_store_mid _ _ _ rfl Z1.heap.size 0 [.int .u64 (limb (wN ((ng E (keyB b d)) + n)) 0), .int .u64 (limb (wN ((ng E (keyB b d)) + n)) 1), .int .u64 (limb (wN ((ng E (keyB b d)) + n)) 2), .int .u64 (limb (wN ((ng E (keyB b d)) + n)) 3)].toArray (by kernel_rfl) (by kernel_rfl) (kz2.there (Nat.le_refl 4)) szW (one4' (wN ((ng E (keyB b d)) + n))) ?_
                    simp only [Act.put, List.getElem_toArray, List.getElem_cons_zero, List.getElem_cons_succ]
                    refine hK.out _ _ (hH3.put (ne1 (by omega)) (by omega) _) (fun hH4 => ?_)
                    clear hK K
                    refine wpAnyH_take (i := 11) (v := .bool (wOk ((ng E (keyB b d)) + n))) rfl (by kernel_rfl) (by kernel_rfl) (by kernel_rfl) (fun _ _ _ h => h) (yk_assign (by kernel_rfl) _ rfl _ (by kernel_rfl)) hH4 ?_
                    refine wpAnyH_done (by kernel_rfl) ?_ _
                    have hB := hH4.hb
                    replace kz2 := setCells_all kz2 [.int .u64 (limb (wN ((ng E (keyB b d)) + n)) 0), .int .u64 (limb (wN ((ng E (keyB b d)) + n)) 1), .int .u64 (limb (wN ((ng E (keyB b d)) + n)) 2), .int .u64 (limb (wN ((ng E (keyB b d)) + n)) 3)] rfl
                    change Exit.then _ _ _ _ (w5.setCells (Z1.heap.size) 0 [.int .u64 (limb (wN ((ng E (keyB b d)) + n)) 0), .int .u64 (limb (wN ((ng E (keyB b d)) + n)) 1), .int .u64 (limb (wN ((ng E (keyB b d)) + n)) 2), .int .u64 (limb (wN ((ng E (keyB b d)) + n)) 3)])
                    generalize w5.setCells (Z1.heap.size) 0 [.int .u64 (limb (wN ((ng E (keyB b d)) + n)) 0), .int .u64 (limb (wN ((ng E (keyB b d)) + n)) 1), .int .u64 (limb (wN ((ng E (keyB b d)) + n)) 2), .int .u64 (limb (wN ((ng E (keyB b d)) + n)) 3)] = Z2 at *
                    clear hH0 hH1 hH2 hH3 hH4 hd3 hd5
                    replace kn := kn.on hB
                    replace kz1 := kz1.on hB
                    have hbZ := BW_on hb1 hB
                    cases h2 : wOk ((ng E (keyB b d)) + n)
                    · obtain ⟨rfl, rfl⟩ := Prod.mk.inj ((rmove_over hm h1 hab h2).symm.trans hR)
                      clear hR
                      go_wp2_with fail
                      go_ret2
                      exact ⟨_, rfl, Ents.nil _, hbZ⟩
                    · obtain ⟨rfl, rfl⟩ := Prod.mk.inj ((rmove_yes hm h1 hab h2).symm.trans hR)
                      clear hR
                      have zk := keyB_size a d
                      have zt := keyB_size b d
                      have C := Lib.hid (fun v w hv => rtwo_any v E (keyB a d) (keyB b d) ((ng E (keyB a d)) - n) (wN ((ng E (keyB b d)) + n)) w hv hs hl (by omega) (by omega) ((ng_lt _ _).sub) (W256.wN _))
                      go_upto_region 15 with (fail)
                      refine wp_region_held_drew (S := BxS w [(gz1, 31, #[.int .u64 (limb ((ng E (keyB a d)) - n) 0), .int .u64 (limb ((ng E (keyB a d)) - n) 1), .int .u64 (limb ((ng E (keyB a d)) - n) 2), .int .u64 (limb ((ng E (keyB a d)) - n) 3)]), (Z1.heap.size, 31, #[.int .u64 (limb (wN ((ng E (keyB b d)) + n)) 0), .int .u64 (limb (wN ((ng E (keyB b d)) + n)) 1), .int .u64 (limb (wN ((ng E (keyB b d)) + n)) 2), .int .u64 (limb (wN ((ng E (keyB b d)) + n)) 3)])]) (by kernel_rfl) (((BxS.nil hbZ).cons kz2).cons kz1).drew (fun hH0 => ?_)
                      refine wpAnyH_take (i := 0) (v := .slice q E.length cap) rfl (by kernel_rfl) (by kernel_rfl) (by kernel_rfl) (fun _ _ _ h => h) (yk_move (by kernel_rfl) _ rfl _ (by kernel_rfl)) hH0 ?_
                      refine wpAnyH_take (i := 1) (v := .string a) rfl (by kernel_rfl) (by kernel_rfl) (by kernel_rfl) (fun _ _ _ h => h) (yk_move (by kernel_rfl) _ rfl _ (by kernel_rfl)) hH0 ?_
                      refine wpAnyH_take (i := 2) (v := .string d) rfl (by kernel_rfl) (by kernel_rfl) (by kernel_rfl) (fun _ _ _ h => h) (yk_move (by kernel_rfl) _ rfl _ (by kernel_rfl)) hH0 ?_
                      refine wpAnyH_take (i := 4) (v := .agg #[.int .u64 (limb ((ng E (keyB a d)) - n) 0), .int .u64 (limb ((ng E (keyB a d)) - n) 1), .int .u64 (limb ((ng E (keyB a d)) - n) 2), .int .u64 (limb ((ng E (keyB a d)) - n) 3)]) rfl (by kernel_rfl) (by kernel_rfl) (by kernel_rfl) (fun _ _ _ h => h) (yk_load (by kernel_rfl) _ _ rfl (.pointer (some ⟨gz1, 0, none⟩)) (by kernel_rfl) _ (fun w' hw' => by have c0 := (hw'.bl _ (.head _)).cell 0; have c1 := (hw'.bl _ (.head _)).cell 1; have c2 := (hw'.bl _ (.head _)).cell 2; have c3 := (hw'.bl _ (.head _)).cell 3; go_simp)) hH0 ?_
                      refine wpAnyH_take (i := 5) (v := .string b) rfl (by kernel_rfl) (by kernel_rfl) (by kernel_rfl) (fun _ _ _ h => h) (yk_move (by kernel_rfl) _ rfl _ (by kernel_rfl)) hH0 ?_
                      refine wpAnyH_take (i := 6) (v := .string d) rfl (by kernel_rfl) (by kernel_rfl) (by kernel_rfl) (fun _ _ _ h => h) (yk_move (by kernel_rfl) _ rfl _ (by kernel_rfl)) hH0 ?_
                      refine wpAnyH_take (i := 8) (v := .agg #[.int .u64 (limb (wN ((ng E (keyB b d)) + n)) 0), .int .u64 (limb (wN ((ng E (keyB b d)) + n)) 1), .int .u64 (limb (wN ((ng E (keyB b d)) + n)) 2), .int .u64 (limb (wN ((ng E (keyB b d)) + n)) 3)]) rfl (by kernel_rfl) (by kernel_rfl) (by kernel_rfl) (fun _ _ _ h => h) (yk_load (by kernel_rfl) _ _ rfl (.pointer (some ⟨Z1.heap.size, 0, none⟩)) (by kernel_rfl) _ (fun w' hw' => by have c0 := (hw'.bl _ (.tail _ (.head _))).cell 0; have c1 := (hw'.bl _ (.tail _ (.head _))).cell 1; have c2 := (hw'.bl _ (.tail _ (.head _))).cell 2; have c3 := (hw'.bl _ (.tail _ (.head _))).cell 3; go_simp)) hH0 ?_
                      refine wpAnyH_ready (rs := [3]) (by kernel_rfl) (by simp) ?_
                      refine AllReadyH.cons rfl (fun K hK => ?_) AllReadyH.nil
                      go_simp
                      go_at_call 54
                      refine (r11key_any a d _ (by omega) (by omega)).mono ?_
                      rintro e w3 ⟨rfl, hd3⟩
                      go_wp2_with fail
                      refine hK.out _ _ (hH0.on hd3) (fun hH1 => ?_)
                      clear hK K
                      refine wpAnyH_ready (rs := [7]) (by kernel_rfl) (by simp) ?_
                      refine AllReadyH.cons rfl (fun K hK => ?_) AllReadyH.nil
                      go_simp
                      go_at_call 54
                      refine (r11key_any b d _ (by omega) (by omega)).mono ?_
                      rintro e w7 ⟨rfl, hd7⟩
                      go_wp2_with fail
                      refine hK.out _ _ (hH1.on hd7) (fun hH2 => ?_)
                      clear hK K
                      refine wpAnyH_ready (rs := [9]) (by kernel_rfl) (by simp) ?_
                      refine AllReadyH.cons rfl (fun K hK => ?_) AllReadyH.nil
                      go_simp
                      go_at_call 61
                      refine (C.out _ _ (hv.on hH2.hb)).mono ?_
                      rintro e w9 ⟨v3, rfl, hen, hd9⟩
                      go_wp2_with fail
                      refine hK.out _ _ (hH2.on hd9) (fun hH3 => ?_)
                      clear hK K
                      refine wpAnyH_take (i := 10) (v := v3) rfl (by kernel_rfl) (by kernel_rfl) (by kernel_rfl) (fun _ _ _ h => h) (yk_ext (by kernel_rfl) _ _ rfl (.tuple #[v3, .int .i64 0]) (by kernel_rfl) _ (fun _ _ => rfl)) hH3 ?_
                      refine wpAnyH_take (i := 11) (v := .int .i64 0) rfl (by kernel_rfl) (by kernel_rfl) (by kernel_rfl) (fun _ _ _ h => h) (yk_ext (by kernel_rfl) _ _ rfl (.tuple #[v3, .int .i64 0]) (by kernel_rfl) _ (fun _ _ => rfl)) hH3 ?_
                      refine wpAnyH_take (i := 12) (v := v3) rfl (by kernel_rfl) (by kernel_rfl) (by kernel_rfl) (fun _ _ _ h => h) (yk_assign (by kernel_rfl) _ rfl _ (by kernel_rfl)) hH3 ?_
                      refine wpAnyH_take (i := 13) (v := .int .i64 0) rfl (by kernel_rfl) (by kernel_rfl) (by kernel_rfl) (fun _ _ _ h => h) (yk_assign (by kernel_rfl) _ rfl _ (by kernel_rfl)) hH3 ?_
                      refine wpAnyH_done (by kernel_rfl) ?_ _
                      have hbf := hH3.hb
                      go_wp2_with fail
                      go_ret2
                      exact ⟨v3, rfl, hen, hbf⟩
            · have kz1 : Blk (w3.alloc (.cells #[.int .u64 0, .int .u64 0, .int .u64 0, .int .u64 0] 31)) (w3.heap.size) 31 #[.int .u64 0, .int .u64 0, .int .u64 0, .int .u64 0] := blk1 w3 _ _
              have hzl1 : W.heap.size ≤ w3.heap.size := hH1.hb.size
              go_simp
              refine hK.out _ _ (hH1.on (BW_alloc (BW_refl _) _)) (fun hH2 => ?_)
              clear hK K
              refine wpAnyH_ready (rs := [5]) (by kernel_rfl) (by simp) ?_
              refine AllReadyH.cons rfl (fun K hK => ?_) AllReadyH.nil
              go_simp
              go_at_call 23
              refine (rsub_any (ng E (keyB a d)) n (ng_lt _ _) hn _).mono ?_
              rintro e w5 ⟨rfl, hd5⟩
              go_wp2_with fail
              refine hK.out _ _ (hH2.on hd5) (fun hH3 => ?_)
              clear hK K
              replace kz1 := kz1.on hd5
              refine wpAnyH_take (i := 6) (v := .tuple #[.agg #[.int .u64 (limb ((ng E (keyB a d)) - n) 0), .int .u64 (limb ((ng E (keyB a d)) - n) 1), .int .u64 (limb ((ng E (keyB a d)) - n) 2), .int .u64 (limb ((ng E (keyB a d)) - n) 3)], .bool (decide (n ≤ (ng E (keyB a d))))]) rfl (by kernel_rfl) (by kernel_rfl) (by kernel_rfl) (fun _ _ _ h => h) (yk_move (by kernel_rfl) _ rfl _ (by kernel_rfl)) hH3 ?_
              refine wpAnyH_take (i := 7) (v := .agg #[.int .u64 (limb ((ng E (keyB a d)) - n) 0), .int .u64 (limb ((ng E (keyB a d)) - n) 1), .int .u64 (limb ((ng E (keyB a d)) - n) 2), .int .u64 (limb ((ng E (keyB a d)) - n) 3)]) rfl (by kernel_rfl) (by kernel_rfl) (by kernel_rfl) (fun _ _ _ h => h) (yk_ext (by kernel_rfl) _ _ rfl (.tuple #[.agg #[.int .u64 (limb ((ng E (keyB a d)) - n) 0), .int .u64 (limb ((ng E (keyB a d)) - n) 1), .int .u64 (limb ((ng E (keyB a d)) - n) 2), .int .u64 (limb ((ng E (keyB a d)) - n) 3)], .bool (decide (n ≤ (ng E (keyB a d))))]) (by kernel_rfl) _ (fun _ _ => rfl)) hH3 ?_
              refine wpAnyH_take (i := 8) (v := .bool (decide (n ≤ (ng E (keyB a d))))) rfl (by kernel_rfl) (by kernel_rfl) (by kernel_rfl) (fun _ _ _ h => h) (yk_ext (by kernel_rfl) _ _ rfl (.tuple #[.agg #[.int .u64 (limb ((ng E (keyB a d)) - n) 0), .int .u64 (limb ((ng E (keyB a d)) - n) 1), .int .u64 (limb ((ng E (keyB a d)) - n) 2), .int .u64 (limb ((ng E (keyB a d)) - n) 3)], .bool (decide (n ≤ (ng E (keyB a d))))]) (by kernel_rfl) _ (fun _ _ => rfl)) hH3 ?_
              refine wpAnyH_ready (rs := [10]) (by kernel_rfl) (by simp) ?_
              refine AllReadyH.cons rfl (fun K hK => ?_) AllReadyH.nil
              rw [if_pos (by kernel_rfl)]
              refine wp_store_mid _ _ _ rfl w3.heap.size 0 [.int .u64 (limb ((ng E (keyB a d)) - n) 0), .int .u64 (limb ((ng E (keyB a d)) - n) 1), .int .u64 (limb ((ng E (keyB a d)) - n) 2), .int .u64 (limb ((ng E (keyB a d)) - n) 3)].toArray (by kernel_rfl) (by kernel_rfl) (kz1.there (Nat.le_refl 4)) szW (one4' ((ng E (keyB a d)) - n)) ?_
              simp only [Act.put, List.getElem_toArray, List.getElem_cons_zero, List.getElem_cons_succ]
              refine hK.out _ _ (hH3.put (ne1 (by omega)) (by omega) _) (fun hH4 => ?_)
              clear hK K
              refine wpAnyH_take (i := 11) (v := .bool (decide (n ≤ (ng E (keyB a d))))) rfl (by kernel_rfl) (by kernel_rfl) (by kernel_rfl) (fun _ _ _ h => h) (yk_assign (by kernel_rfl) _ rfl _ (by kernel_rfl)) hH4 ?_
              refine wpAnyH_done (by kernel_rfl) ?_ _
              have hB := hH4.hb
              replace kz1 := setCells_all kz1 [.int .u64 (limb ((ng E (keyB a d)) - n) 0), .int .u64 (limb ((ng E (keyB a d)) - n) 1), .int .u64 (limb ((ng E (keyB a d)) - n) 2), .int .u64 (limb ((ng E (keyB a d)) - n) 3)] rfl
              change Exit.then _ _ _ _ (w5.setCells (w3.heap.size) 0 [.int .u64 (limb ((ng E (keyB a d)) - n) 0), .int .u64 (limb ((ng E (keyB a d)) - n) 1), .int .u64 (limb ((ng E (keyB a d)) - n) 2), .int .u64 (limb ((ng E (keyB a d)) - n) 3)])
              generalize w5.setCells (w3.heap.size) 0 [.int .u64 (limb ((ng E (keyB a d)) - n) 0), .int .u64 (limb ((ng E (keyB a d)) - n) 1), .int .u64 (limb ((ng E (keyB a d)) - n) 2), .int .u64 (limb ((ng E (keyB a d)) - n) 3)] = Z1 at *
              generalize w3.heap.size = gz1 at *
              clear hH0 hH1 hH2 hH3 hH4 hd3 hd5
              have hb1 := BW_on hb0 hB
              replace kn := kn.on hB
              clear hB
              have hvZ := hv.on hb1
              have hszz := kn.lt
              cases h1 : decide (n ≤ (ng E (keyB a d)))
              · obtain ⟨rfl, rfl⟩ := Prod.mk.inj ((rmove_no hm h1).symm.trans hR)
                clear hR
                go_wp2_with fail
                go_ret2
                exact ⟨_, rfl, Ents.nil _, hb1⟩
              · by_cases hab : a = b
                · subst hab
                  have hbq : (a.toList == a.toList) = true := beq_self_eq_true _
                  obtain ⟨rfl, rfl⟩ := Prod.mk.inj ((rmove_self hm h1).symm.trans hR)
                  clear hR
                  go_wp2_with fail
                  go_ret2
                  exact ⟨_, rfl, hvZ, hb1⟩
                · have hbq : (a.toList == b.toList) = false := by rw [beq_kl]; exact decide_eq_false hab
                  go_upto_region 12 with (fail)
                  refine wp_region_held_drew (S := BxS Z1 [(w.heap.size, 31, #[.int .u64 (limb n 0), .int .u64 (limb n 1), .int .u64 (limb n 2), .int .u64 (limb n 3)])]) (by kernel_rfl) ((BxS.nil (BW_refl Z1)).cons kn).drew (fun hH0 => ?_)
                  refine wpAnyH_take (i := 0) (v := .slice q E.length cap) rfl (by kernel_rfl) (by kernel_rfl) (by kernel_rfl) (fun _ _ _ h => h) (yk_move (by kernel_rfl) _ rfl _ (by kernel_rfl)) hH0 ?_
                  refine wpAnyH_take (i := 1) (v := .string b) rfl (by kernel_rfl) (by kernel_rfl) (by kernel_rfl) (fun _ _ _ h => h) (yk_move (by kernel_rfl) _ rfl _ (by kernel_rfl)) hH0 ?_
                  refine wpAnyH_take (i := 2) (v := .string d) rfl (by kernel_rfl) (by kernel_rfl) (by kernel_rfl) (fun _ _ _ h => h) (yk_move (by kernel_rfl) _ rfl _ (by kernel_rfl)) hH0 ?_
                  refine wpAnyH_take (i := 4) (v := .agg #[.int .u64 (limb n 0), .int .u64 (limb n 1), .int .u64 (limb n 2), .int .u64 (limb n 3)]) rfl (by kernel_rfl) (by kernel_rfl) (by kernel_rfl) (fun _ _ _ h => h) (yk_load (by kernel_rfl) _ _ rfl (.pointer (some ⟨w.heap.size, 0, none⟩)) (by kernel_rfl) _ (fun w' hw' => by have c0 := (hw'.bl _ (.head _)).cell 0; have c1 := (hw'.bl _ (.head _)).cell 1; have c2 := (hw'.bl _ (.head _)).cell 2; have c3 := (hw'.bl _ (.head _)).cell 3; go_simp)) hH0 ?_
                  refine wpAnyH_ready (rs := [3, 9]) (by kernel_rfl) (by simp) ?_
                  refine AllReadyH.cons rfl (fun K hK => ?_) (AllReadyH.cons rfl (fun K hK => ?_) (AllReadyH.nil))
                  · go_simp
                    go_at_call 24
                    refine (r11bal_any _ E b d _ (hvZ.on hH0.hb) (by omega) (by omega) (by omega)).mono ?_
                    rintro e w3 ⟨rfl, hd3⟩
                    go_wp2_with fail
                    refine hK.out _ _ (hH0.on hd3) (fun hH1 => ?_)
                    clear hK K
                    
                    refine wpAnyH_ready (rs := [5, 9]) (by kernel_rfl) (by simp) ?_
                    refine AllReadyH.cons rfl (fun K hK => ?_) (AllReadyH.cons rfl (fun K hK => ?_) (AllReadyH.nil))
                    · go_simp
                      go_at_call 22
                      refine (radd_any (ng E (keyB b d)) n (ng_lt _ _) hn _).mono ?_
                      rintro e w5 ⟨rfl, hd5⟩
                      go_wp2_with fail
                      refine hK.out _ _ (hH1.on hd5) (fun hH2 => ?_)
                      clear hK K
                      
                      refine wpAnyH_take (i := 6) (v := .tuple #[.agg #[.int .u64 (limb (wN ((ng E (keyB b d)) + n)) 0), .int .u64 (limb (wN ((ng E (keyB b d)) + n)) 1), .int .u64 (limb (wN ((ng E (keyB b d)) + n)) 2), .int .u64 (limb (wN ((ng E (keyB b d)) + n)) 3)], .bool (wOk ((ng E (keyB b d)) + n))]) rfl (by kernel_rfl) (by kernel_rfl) (by kernel_rfl) (fun _ _ _ h => h) (yk_move (by kernel_rfl) _ rfl _ (by kernel_rfl)) hH2 ?_
                      refine wpAnyH_take (i := 7) (v := .agg #[.int .u64 (limb (wN ((ng E (keyB b d)) + n)) 0), .int .u64 (limb (wN ((ng E (keyB b d)) + n)) 1), .int .u64 (limb (wN ((ng E (keyB b d)) + n)) 2), .int .u64 (limb (wN ((ng E (keyB b d)) + n)) 3)]) rfl (by kernel_rfl) (by kernel_rfl) (by kernel_rfl) (fun _ _ _ h => h) (yk_ext (by kernel_rfl) _ _ rfl (.tuple #[.agg #[.int .u64 (limb (wN ((ng E (keyB b d)) + n)) 0), .int .u64 (limb (wN ((ng E (keyB b d)) + n)) 1), .int .u64 (limb (wN ((ng E (keyB b d)) + n)) 2), .int .u64 (limb (wN ((ng E (keyB b d)) + n)) 3)], .bool (wOk ((ng E (keyB b d)) + n))]) (by kernel_rfl) _ (fun _ _ => rfl)) hH2 ?_
                      refine wpAnyH_take (i := 8) (v := .bool (wOk ((ng E (keyB b d)) + n))) rfl (by kernel_rfl) (by kernel_rfl) (by kernel_rfl) (fun _ _ _ h => h) (yk_ext (by kernel_rfl) _ _ rfl (.tuple #[.agg #[.int .u64 (limb (wN ((ng E (keyB b d)) + n)) 0), .int .u64 (limb (wN ((ng E (keyB b d)) + n)) 1), .int .u64 (limb (wN ((ng E (keyB b d)) + n)) 2), .int .u64 (limb (wN ((ng E (keyB b d)) + n)) 3)], .bool (wOk ((ng E (keyB b d)) + n))]) (by kernel_rfl) _ (fun _ _ => rfl)) hH2 ?_
                      have kz2 : Blk (w5.alloc (.cells #[.int .u64 0, .int .u64 0, .int .u64 0, .int .u64 0] 31)) (w5.heap.size) 31 #[.int .u64 0, .int .u64 0, .int .u64 0, .int .u64 0] := blk1 w5 _ _
                      have hzl2 : Z1.heap.size ≤ w5.heap.size := hH2.hb.size
                      refine wpAnyH_ready (rs := [9]) (by kernel_rfl) (by simp) ?_
                      refine AllReadyH.cons rfl (fun K hK => ?_) AllReadyH.nil
                      go_simp
                      refine hK.out _ _ (hH2.on (BW_alloc (BW_refl _) _)) (fun hH3 => ?_)
                      clear hK K
                      refine wpAnyH_ready (rs := [10]) (by kernel_rfl) (by simp) ?_
                      refine AllReadyH.cons rfl (fun K hK => ?_) AllReadyH.nil
                      rw [if_pos (by kernel_rfl)]
                      refine wp_store_mid _ _ _ rfl w5.heap.size 0 [.int .u64 (limb (wN ((ng E (keyB b d)) + n)) 0), .int .u64 (limb (wN ((ng E (keyB b d)) + n)) 1), .int .u64 (limb (wN ((ng E (keyB b d)) + n)) 2), .int .u64 (limb (wN ((ng E (keyB b d)) + n)) 3)].toArray (by kernel_rfl) (by kernel_rfl) (kz2.there (Nat.le_refl 4)) szW (one4' (wN ((ng E (keyB b d)) + n))) ?_
                      simp only [Act.put, List.getElem_toArray, List.getElem_cons_zero, List.getElem_cons_succ]
                      refine hK.out _ _ (hH3.put (ne1 (by omega)) (by omega) _) (fun hH4 => ?_)
                      clear hK K
                      refine wpAnyH_take (i := 11) (v := .bool (wOk ((ng E (keyB b d)) + n))) rfl (by kernel_rfl) (by kernel_rfl) (by kernel_rfl) (fun _ _ _ h => h) (yk_assign (by kernel_rfl) _ rfl _ (by kernel_rfl)) hH4 ?_
                      refine wpAnyH_done (by kernel_rfl) ?_ _
                      have hB := hH4.hb
                      replace kz2 := setCells_all kz2 [.int .u64 (limb (wN ((ng E (keyB b d)) + n)) 0), .int .u64 (limb (wN ((ng E (keyB b d)) + n)) 1), .int .u64 (limb (wN ((ng E (keyB b d)) + n)) 2), .int .u64 (limb (wN ((ng E (keyB b d)) + n)) 3)] rfl
                      change Exit.then _ _ _ _ ((w5.alloc (.cells #[.int .u64 0, .int .u64 0, .int .u64 0, .int .u64 0] 31)).setCells (w5.heap.size) 0 [.int .u64 (limb (wN ((ng E (keyB b d)) + n)) 0), .int .u64 (limb (wN ((ng E (keyB b d)) + n)) 1), .int .u64 (limb (wN ((ng E (keyB b d)) + n)) 2), .int .u64 (limb (wN ((ng E (keyB b d)) + n)) 3)])
                      generalize (w5.alloc (.cells #[.int .u64 0, .int .u64 0, .int .u64 0, .int .u64 0] 31)).setCells (w5.heap.size) 0 [.int .u64 (limb (wN ((ng E (keyB b d)) + n)) 0), .int .u64 (limb (wN ((ng E (keyB b d)) + n)) 1), .int .u64 (limb (wN ((ng E (keyB b d)) + n)) 2), .int .u64 (limb (wN ((ng E (keyB b d)) + n)) 3)] = Z2 at *
                      generalize w5.heap.size = gz2 at *
                      clear hH0 hH1 hH2 hH3 hH4 hd3 hd5
                      replace kn := kn.on hB
                      replace kz1 := kz1.on hB
                      have hbZ := BW_on hb1 hB
                      cases h2 : wOk ((ng E (keyB b d)) + n)
                      · obtain ⟨rfl, rfl⟩ := Prod.mk.inj ((rmove_over hm h1 hab h2).symm.trans hR)
                        clear hR
                        go_wp2_with fail
                        go_ret2
                        exact ⟨_, rfl, Ents.nil _, hbZ⟩
                      · obtain ⟨rfl, rfl⟩ := Prod.mk.inj ((rmove_yes hm h1 hab h2).symm.trans hR)
                        clear hR
                        have zk := keyB_size a d
                        have zt := keyB_size b d
                        have C := Lib.hid (fun v w hv => rtwo_any v E (keyB a d) (keyB b d) ((ng E (keyB a d)) - n) (wN ((ng E (keyB b d)) + n)) w hv hs hl (by omega) (by omega) ((ng_lt _ _).sub) (W256.wN _))
                        go_upto_region 15 with (fail)
                        refine wp_region_held_drew (S := BxS w [(gz1, 31, #[.int .u64 (limb ((ng E (keyB a d)) - n) 0), .int .u64 (limb ((ng E (keyB a d)) - n) 1), .int .u64 (limb ((ng E (keyB a d)) - n) 2), .int .u64 (limb ((ng E (keyB a d)) - n) 3)]), (gz2, 31, #[.int .u64 (limb (wN ((ng E (keyB b d)) + n)) 0), .int .u64 (limb (wN ((ng E (keyB b d)) + n)) 1), .int .u64 (limb (wN ((ng E (keyB b d)) + n)) 2), .int .u64 (limb (wN ((ng E (keyB b d)) + n)) 3)])]) (by kernel_rfl) (((BxS.nil hbZ).cons kz2).cons kz1).drew (fun hH0 => ?_)
                        refine wpAnyH_take (i := 0) (v := .slice q E.length cap) rfl (by kernel_rfl) (by kernel_rfl) (by kernel_rfl) (fun _ _ _ h => h) (yk_move (by kernel_rfl) _ rfl _ (by kernel_rfl)) hH0 ?_
                        refine wpAnyH_take (i := 1) (v := .string a) rfl (by kernel_rfl) (by kernel_rfl) (by kernel_rfl) (fun _ _ _ h => h) (yk_move (by kernel_rfl) _ rfl _ (by kernel_rfl)) hH0 ?_
                        refine wpAnyH_take (i := 2) (v := .string d) rfl (by kernel_rfl) (by kernel_rfl) (by kernel_rfl) (fun _ _ _ h => h) (yk_move (by kernel_rfl) _ rfl _ (by kernel_rfl)) hH0 ?_
                        refine wpAnyH_take (i := 4) (v := .agg #[.int .u64 (limb ((ng E (keyB a d)) - n) 0), .int .u64 (limb ((ng E (keyB a d)) - n) 1), .int .u64 (limb ((ng E (keyB a d)) - n) 2), .int .u64 (limb ((ng E (keyB a d)) - n) 3)]) rfl (by kernel_rfl) (by kernel_rfl) (by kernel_rfl) (fun _ _ _ h => h) (yk_load (by kernel_rfl) _ _ rfl (.pointer (some ⟨gz1, 0, none⟩)) (by kernel_rfl) _ (fun w' hw' => by have c0 := (hw'.bl _ (.head _)).cell 0; have c1 := (hw'.bl _ (.head _)).cell 1; have c2 := (hw'.bl _ (.head _)).cell 2; have c3 := (hw'.bl _ (.head _)).cell 3; go_simp)) hH0 ?_
                        refine wpAnyH_take (i := 5) (v := .string b) rfl (by kernel_rfl) (by kernel_rfl) (by kernel_rfl) (fun _ _ _ h => h) (yk_move (by kernel_rfl) _ rfl _ (by kernel_rfl)) hH0 ?_
                        refine wpAnyH_take (i := 6) (v := .string d) rfl (by kernel_rfl) (by kernel_rfl) (by kernel_rfl) (fun _ _ _ h => h) (yk_move (by kernel_rfl) _ rfl _ (by kernel_rfl)) hH0 ?_
                        refine wpAnyH_take (i := 8) (v := .agg #[.int .u64 (limb (wN ((ng E (keyB b d)) + n)) 0), .int .u64 (limb (wN ((ng E (keyB b d)) + n)) 1), .int .u64 (limb (wN ((ng E (keyB b d)) + n)) 2), .int .u64 (limb (wN ((ng E (keyB b d)) + n)) 3)]) rfl (by kernel_rfl) (by kernel_rfl) (by kernel_rfl) (fun _ _ _ h => h) (yk_load (by kernel_rfl) _ _ rfl (.pointer (some ⟨gz2, 0, none⟩)) (by kernel_rfl) _ (fun w' hw' => by have c0 := (hw'.bl _ (.tail _ (.head _))).cell 0; have c1 := (hw'.bl _ (.tail _ (.head _))).cell 1; have c2 := (hw'.bl _ (.tail _ (.head _))).cell 2; have c3 := (hw'.bl _ (.tail _ (.head _))).cell 3; go_simp)) hH0 ?_
                        refine wpAnyH_ready (rs := [3]) (by kernel_rfl) (by simp) ?_
                        refine AllReadyH.cons rfl (fun K hK => ?_) AllReadyH.nil
                        go_simp
                        go_at_call 54
                        refine (r11key_any a d _ (by omega) (by omega)).mono ?_
                        rintro e w3 ⟨rfl, hd3⟩
                        go_wp2_with fail
                        refine hK.out _ _ (hH0.on hd3) (fun hH1 => ?_)
                        clear hK K
                        refine wpAnyH_ready (rs := [7]) (by kernel_rfl) (by simp) ?_
                        refine AllReadyH.cons rfl (fun K hK => ?_) AllReadyH.nil
                        go_simp
                        go_at_call 54
                        refine (r11key_any b d _ (by omega) (by omega)).mono ?_
                        rintro e w7 ⟨rfl, hd7⟩
                        go_wp2_with fail
                        refine hK.out _ _ (hH1.on hd7) (fun hH2 => ?_)
                        clear hK K
                        refine wpAnyH_ready (rs := [9]) (by kernel_rfl) (by simp) ?_
                        refine AllReadyH.cons rfl (fun K hK => ?_) AllReadyH.nil
                        go_simp
                        go_at_call 61
                        refine (C.out _ _ (hv.on hH2.hb)).mono ?_
                        rintro e w9 ⟨v3, rfl, hen, hd9⟩
                        go_wp2_with fail
                        refine hK.out _ _ (hH2.on hd9) (fun hH3 => ?_)
                        clear hK K
                        refine wpAnyH_take (i := 10) (v := v3) rfl (by kernel_rfl) (by kernel_rfl) (by kernel_rfl) (fun _ _ _ h => h) (yk_ext (by kernel_rfl) _ _ rfl (.tuple #[v3, .int .i64 0]) (by kernel_rfl) _ (fun _ _ => rfl)) hH3 ?_
                        refine wpAnyH_take (i := 11) (v := .int .i64 0) rfl (by kernel_rfl) (by kernel_rfl) (by kernel_rfl) (fun _ _ _ h => h) (yk_ext (by kernel_rfl) _ _ rfl (.tuple #[v3, .int .i64 0]) (by kernel_rfl) _ (fun _ _ => rfl)) hH3 ?_
                        refine wpAnyH_take (i := 12) (v := v3) rfl (by kernel_rfl) (by kernel_rfl) (by kernel_rfl) (fun _ _ _ h => h) (yk_assign (by kernel_rfl) _ rfl _ (by kernel_rfl)) hH3 ?_
                        refine wpAnyH_take (i := 13) (v := .int .i64 0) rfl (by kernel_rfl) (by kernel_rfl) (by kernel_rfl) (fun _ _ _ h => h) (yk_assign (by kernel_rfl) _ rfl _ (by kernel_rfl)) hH3 ?_
                        refine wpAnyH_done (by kernel_rfl) ?_ _
                        have hbf := hH3.hb
                        go_wp2_with fail
                        go_ret2
                        exact ⟨v3, rfl, hen, hbf⟩
                    · have kz2 : Blk (w3.alloc (.cells #[.int .u64 0, .int .u64 0, .int .u64 0, .int .u64 0] 31)) (w3.heap.size) 31 #[.int .u64 0, .int .u64 0, .int .u64 0, .int .u64 0] := blk1 w3 _ _
                      have hzl2 : Z1.heap.size ≤ w3.heap.size := hH1.hb.size
                      go_simp
                      refine hK.out _ _ (hH1.on (BW_alloc (BW_refl _) _)) (fun hH2 => ?_)
                      clear hK K
                      refine wpAnyH_ready (rs := [5]) (by kernel_rfl) (by simp) ?_
                      refine AllReadyH.cons rfl (fun K hK => ?_) AllReadyH.nil
                      go_simp
                      go_at_call 22
                      refine (radd_any (ng E (keyB b d)) n (ng_lt _ _) hn _).mono ?_
                      rintro e w5 ⟨rfl, hd5⟩
                      go_wp2_with fail
                      refine hK.out _ _ (hH2.on hd5) (fun hH3 => ?_)
                      clear hK K
                      replace kz2 := kz2.on hd5
                      refine wpAnyH_take (i := 6) (v := .tuple #[.agg #[.int .u64 (limb (wN ((ng E (keyB b d)) + n)) 0), .int .u64 (limb (wN ((ng E (keyB b d)) + n)) 1), .int .u64 (limb (wN ((ng E (keyB b d)) + n)) 2), .int .u64 (limb (wN ((ng E (keyB b d)) + n)) 3)], .bool (wOk ((ng E (keyB b d)) + n))]) rfl (by kernel_rfl) (by kernel_rfl) (by kernel_rfl) (fun _ _ _ h => h) (yk_move (by kernel_rfl) _ rfl _ (by kernel_rfl)) hH3 ?_
                      refine wpAnyH_take (i := 7) (v := .agg #[.int .u64 (limb (wN ((ng E (keyB b d)) + n)) 0), .int .u64 (limb (wN ((ng E (keyB b d)) + n)) 1), .int .u64 (limb (wN ((ng E (keyB b d)) + n)) 2), .int .u64 (limb (wN ((ng E (keyB b d)) + n)) 3)]) rfl (by kernel_rfl) (by kernel_rfl) (by kernel_rfl) (fun _ _ _ h => h) (yk_ext (by kernel_rfl) _ _ rfl (.tuple #[.agg #[.int .u64 (limb (wN ((ng E (keyB b d)) + n)) 0), .int .u64 (limb (wN ((ng E (keyB b d)) + n)) 1), .int .u64 (limb (wN ((ng E (keyB b d)) + n)) 2), .int .u64 (limb (wN ((ng E (keyB b d)) + n)) 3)], .bool (wOk ((ng E (keyB b d)) + n))]) (by kernel_rfl) _ (fun _ _ => rfl)) hH3 ?_
                      refine wpAnyH_take (i := 8) (v := .bool (wOk ((ng E (keyB b d)) + n))) rfl (by kernel_rfl) (by kernel_rfl) (by kernel_rfl) (fun _ _ _ h => h) (yk_ext (by kernel_rfl) _ _ rfl (.tuple #[.agg #[.int .u64 (limb (wN ((ng E (keyB b d)) + n)) 0), .int .u64 (limb (wN ((ng E (keyB b d)) + n)) 1), .int .u64 (limb (wN ((ng E (keyB b d)) + n)) 2), .int .u64 (limb (wN ((ng E (keyB b d)) + n)) 3)], .bool (wOk ((ng E (keyB b d)) + n))]) (by kernel_rfl) _ (fun _ _ => rfl)) hH3 ?_
                      refine wpAnyH_ready (rs := [10]) (by kernel_rfl) (by simp) ?_
                      refine AllReadyH.cons rfl (fun K hK => ?_) AllReadyH.nil
                      rw [if_pos (by kernel_rfl)]
                      refine wp_store_mid _ _ _ rfl w3.heap.size 0 [.int .u64 (limb (wN ((ng E (keyB b d)) + n)) 0), .int .u64 (limb (wN ((ng E (keyB b d)) + n)) 1), .int .u64 (limb (wN ((ng E (keyB b d)) + n)) 2), .int .u64 (limb (wN ((ng E (keyB b d)) + n)) 3)].toArray (by kernel_rfl) (by kernel_rfl) (kz2.there (Nat.le_refl 4)) szW (one4' (wN ((ng E (keyB b d)) + n))) ?_
                      simp only [Act.put, List.getElem_toArray, List.getElem_cons_zero, List.getElem_cons_succ]
                      refine hK.out _ _ (hH3.put (ne1 (by omega)) (by omega) _) (fun hH4 => ?_)
                      clear hK K
                      refine wpAnyH_take (i := 11) (v := .bool (wOk ((ng E (keyB b d)) + n))) rfl (by kernel_rfl) (by kernel_rfl) (by kernel_rfl) (fun _ _ _ h => h) (yk_assign (by kernel_rfl) _ rfl _ (by kernel_rfl)) hH4 ?_
                      refine wpAnyH_done (by kernel_rfl) ?_ _
                      have hB := hH4.hb
                      replace kz2 := setCells_all kz2 [.int .u64 (limb (wN ((ng E (keyB b d)) + n)) 0), .int .u64 (limb (wN ((ng E (keyB b d)) + n)) 1), .int .u64 (limb (wN ((ng E (keyB b d)) + n)) 2), .int .u64 (limb (wN ((ng E (keyB b d)) + n)) 3)] rfl
                      change Exit.then _ _ _ _ (w5.setCells (w3.heap.size) 0 [.int .u64 (limb (wN ((ng E (keyB b d)) + n)) 0), .int .u64 (limb (wN ((ng E (keyB b d)) + n)) 1), .int .u64 (limb (wN ((ng E (keyB b d)) + n)) 2), .int .u64 (limb (wN ((ng E (keyB b d)) + n)) 3)])
                      generalize w5.setCells (w3.heap.size) 0 [.int .u64 (limb (wN ((ng E (keyB b d)) + n)) 0), .int .u64 (limb (wN ((ng E (keyB b d)) + n)) 1), .int .u64 (limb (wN ((ng E (keyB b d)) + n)) 2), .int .u64 (limb (wN ((ng E (keyB b d)) + n)) 3)] = Z2 at *
                      generalize w3.heap.size = gz2 at *
                      clear hH0 hH1 hH2 hH3 hH4 hd3 hd5
                      replace kn := kn.on hB
                      replace kz1 := kz1.on hB
                      have hbZ := BW_on hb1 hB
                      cases h2 : wOk ((ng E (keyB b d)) + n)
                      · obtain ⟨rfl, rfl⟩ := Prod.mk.inj ((rmove_over hm h1 hab h2).symm.trans hR)
                        clear hR
                        go_wp2_with fail
                        go_ret2
                        exact ⟨_, rfl, Ents.nil _, hbZ⟩
                      · obtain ⟨rfl, rfl⟩ := Prod.mk.inj ((rmove_yes hm h1 hab h2).symm.trans hR)
                        clear hR
                        have zk := keyB_size a d
                        have zt := keyB_size b d
                        have C := Lib.hid (fun v w hv => rtwo_any v E (keyB a d) (keyB b d) ((ng E (keyB a d)) - n) (wN ((ng E (keyB b d)) + n)) w hv hs hl (by omega) (by omega) ((ng_lt _ _).sub) (W256.wN _))
                        go_upto_region 15 with (fail)
                        refine wp_region_held_drew (S := BxS w [(gz1, 31, #[.int .u64 (limb ((ng E (keyB a d)) - n) 0), .int .u64 (limb ((ng E (keyB a d)) - n) 1), .int .u64 (limb ((ng E (keyB a d)) - n) 2), .int .u64 (limb ((ng E (keyB a d)) - n) 3)]), (gz2, 31, #[.int .u64 (limb (wN ((ng E (keyB b d)) + n)) 0), .int .u64 (limb (wN ((ng E (keyB b d)) + n)) 1), .int .u64 (limb (wN ((ng E (keyB b d)) + n)) 2), .int .u64 (limb (wN ((ng E (keyB b d)) + n)) 3)])]) (by kernel_rfl) (((BxS.nil hbZ).cons kz2).cons kz1).drew (fun hH0 => ?_)
                        refine wpAnyH_take (i := 0) (v := .slice q E.length cap) rfl (by kernel_rfl) (by kernel_rfl) (by kernel_rfl) (fun _ _ _ h => h) (yk_move (by kernel_rfl) _ rfl _ (by kernel_rfl)) hH0 ?_
                        refine wpAnyH_take (i := 1) (v := .string a) rfl (by kernel_rfl) (by kernel_rfl) (by kernel_rfl) (fun _ _ _ h => h) (yk_move (by kernel_rfl) _ rfl _ (by kernel_rfl)) hH0 ?_
                        refine wpAnyH_take (i := 2) (v := .string d) rfl (by kernel_rfl) (by kernel_rfl) (by kernel_rfl) (fun _ _ _ h => h) (yk_move (by kernel_rfl) _ rfl _ (by kernel_rfl)) hH0 ?_
                        refine wpAnyH_take (i := 4) (v := .agg #[.int .u64 (limb ((ng E (keyB a d)) - n) 0), .int .u64 (limb ((ng E (keyB a d)) - n) 1), .int .u64 (limb ((ng E (keyB a d)) - n) 2), .int .u64 (limb ((ng E (keyB a d)) - n) 3)]) rfl (by kernel_rfl) (by kernel_rfl) (by kernel_rfl) (fun _ _ _ h => h) (yk_load (by kernel_rfl) _ _ rfl (.pointer (some ⟨gz1, 0, none⟩)) (by kernel_rfl) _ (fun w' hw' => by have c0 := (hw'.bl _ (.head _)).cell 0; have c1 := (hw'.bl _ (.head _)).cell 1; have c2 := (hw'.bl _ (.head _)).cell 2; have c3 := (hw'.bl _ (.head _)).cell 3; go_simp)) hH0 ?_
                        refine wpAnyH_take (i := 5) (v := .string b) rfl (by kernel_rfl) (by kernel_rfl) (by kernel_rfl) (fun _ _ _ h => h) (yk_move (by kernel_rfl) _ rfl _ (by kernel_rfl)) hH0 ?_
                        refine wpAnyH_take (i := 6) (v := .string d) rfl (by kernel_rfl) (by kernel_rfl) (by kernel_rfl) (fun _ _ _ h => h) (yk_move (by kernel_rfl) _ rfl _ (by kernel_rfl)) hH0 ?_
                        refine wpAnyH_take (i := 8) (v := .agg #[.int .u64 (limb (wN ((ng E (keyB b d)) + n)) 0), .int .u64 (limb (wN ((ng E (keyB b d)) + n)) 1), .int .u64 (limb (wN ((ng E (keyB b d)) + n)) 2), .int .u64 (limb (wN ((ng E (keyB b d)) + n)) 3)]) rfl (by kernel_rfl) (by kernel_rfl) (by kernel_rfl) (fun _ _ _ h => h) (yk_load (by kernel_rfl) _ _ rfl (.pointer (some ⟨gz2, 0, none⟩)) (by kernel_rfl) _ (fun w' hw' => by have c0 := (hw'.bl _ (.tail _ (.head _))).cell 0; have c1 := (hw'.bl _ (.tail _ (.head _))).cell 1; have c2 := (hw'.bl _ (.tail _ (.head _))).cell 2; have c3 := (hw'.bl _ (.tail _ (.head _))).cell 3; go_simp)) hH0 ?_
                        refine wpAnyH_ready (rs := [3]) (by kernel_rfl) (by simp) ?_
                        refine AllReadyH.cons rfl (fun K hK => ?_) AllReadyH.nil
                        go_simp
                        go_at_call 54
                        refine (r11key_any a d _ (by omega) (by omega)).mono ?_
                        rintro e w3 ⟨rfl, hd3⟩
                        go_wp2_with fail
                        refine hK.out _ _ (hH0.on hd3) (fun hH1 => ?_)
                        clear hK K
                        refine wpAnyH_ready (rs := [7]) (by kernel_rfl) (by simp) ?_
                        refine AllReadyH.cons rfl (fun K hK => ?_) AllReadyH.nil
                        go_simp
                        go_at_call 54
                        refine (r11key_any b d _ (by omega) (by omega)).mono ?_
                        rintro e w7 ⟨rfl, hd7⟩
                        go_wp2_with fail
                        refine hK.out _ _ (hH1.on hd7) (fun hH2 => ?_)
                        clear hK K
                        refine wpAnyH_ready (rs := [9]) (by kernel_rfl) (by simp) ?_
                        refine AllReadyH.cons rfl (fun K hK => ?_) AllReadyH.nil
                        go_simp
                        go_at_call 61
                        refine (C.out _ _ (hv.on hH2.hb)).mono ?_
                        rintro e w9 ⟨v3, rfl, hen, hd9⟩
                        go_wp2_with fail
                        refine hK.out _ _ (hH2.on hd9) (fun hH3 => ?_)
                        clear hK K
                        refine wpAnyH_take (i := 10) (v := v3) rfl (by kernel_rfl) (by kernel_rfl) (by kernel_rfl) (fun _ _ _ h => h) (yk_ext (by kernel_rfl) _ _ rfl (.tuple #[v3, .int .i64 0]) (by kernel_rfl) _ (fun _ _ => rfl)) hH3 ?_
                        refine wpAnyH_take (i := 11) (v := .int .i64 0) rfl (by kernel_rfl) (by kernel_rfl) (by kernel_rfl) (fun _ _ _ h => h) (yk_ext (by kernel_rfl) _ _ rfl (.tuple #[v3, .int .i64 0]) (by kernel_rfl) _ (fun _ _ => rfl)) hH3 ?_
                        refine wpAnyH_take (i := 12) (v := v3) rfl (by kernel_rfl) (by kernel_rfl) (by kernel_rfl) (fun _ _ _ h => h) (yk_assign (by kernel_rfl) _ rfl _ (by kernel_rfl)) hH3 ?_
                        refine wpAnyH_take (i := 13) (v := .int .i64 0) rfl (by kernel_rfl) (by kernel_rfl) (by kernel_rfl) (fun _ _ _ h => h) (yk_assign (by kernel_rfl) _ rfl _ (by kernel_rfl)) hH3 ?_
                        refine wpAnyH_done (by kernel_rfl) ?_ _
                        have hbf := hH3.hb
                        go_wp2_with fail
                        go_ret2
                        exact ⟨v3, rfl, hen, hbf⟩
                  · have kz2 : Blk (Z1.drew.alloc (.cells #[.int .u64 0, .int .u64 0, .int .u64 0, .int .u64 0] 31)) (Z1.heap.size) 31 #[.int .u64 0, .int .u64 0, .int .u64 0, .int .u64 0] := blk1 Z1.drew _ _
                    have hzl2 : Z1.heap.size ≤ Z1.heap.size := hH0.hb.size
                    go_simp
                    refine hK.out _ _ (hH0.on (BW_alloc (BW_refl _) _)) (fun hH1 => ?_)
                    clear hK K
                    refine wpAnyH_ready (rs := [3]) (by kernel_rfl) (by simp) ?_
                    refine AllReadyH.cons rfl (fun K hK => ?_) AllReadyH.nil
                    go_simp
                    go_at_call 24
                    refine (r11bal_any _ E b d _ (hvZ.on hH1.hb) (by omega) (by omega) (by omega)).mono ?_
                    rintro e w3 ⟨rfl, hd3⟩
                    go_wp2_with fail
                    refine hK.out _ _ (hH1.on hd3) (fun hH2 => ?_)
                    clear hK K
                    replace kz2 := kz2.on hd3
                    refine wpAnyH_ready (rs := [5]) (by kernel_rfl) (by simp) ?_
                    refine AllReadyH.cons rfl (fun K hK => ?_) AllReadyH.nil
                    go_simp
                    go_at_call 22
                    refine (radd_any (ng E (keyB b d)) n (ng_lt _ _) hn _).mono ?_
                    rintro e w5 ⟨rfl, hd5⟩
                    go_wp2_with fail
                    refine hK.out _ _ (hH2.on hd5) (fun hH3 => ?_)
                    clear hK K
                    replace kz2 := kz2.on hd5
                    refine wpAnyH_take (i := 6) (v := .tuple #[.agg #[.int .u64 (limb (wN ((ng E (keyB b d)) + n)) 0), .int .u64 (limb (wN ((ng E (keyB b d)) + n)) 1), .int .u64 (limb (wN ((ng E (keyB b d)) + n)) 2), .int .u64 (limb (wN ((ng E (keyB b d)) + n)) 3)], .bool (wOk ((ng E (keyB b d)) + n))]) rfl (by kernel_rfl) (by kernel_rfl) (by kernel_rfl) (fun _ _ _ h => h) (yk_move (by kernel_rfl) _ rfl _ (by kernel_rfl)) hH3 ?_
                    refine wpAnyH_take (i := 7) (v := .agg #[.int .u64 (limb (wN ((ng E (keyB b d)) + n)) 0), .int .u64 (limb (wN ((ng E (keyB b d)) + n)) 1), .int .u64 (limb (wN ((ng E (keyB b d)) + n)) 2), .int .u64 (limb (wN ((ng E (keyB b d)) + n)) 3)]) rfl (by kernel_rfl) (by kernel_rfl) (by kernel_rfl) (fun _ _ _ h => h) (yk_ext (by kernel_rfl) _ _ rfl (.tuple #[.agg #[.int .u64 (limb (wN ((ng E (keyB b d)) + n)) 0), .int .u64 (limb (wN ((ng E (keyB b d)) + n)) 1), .int .u64 (limb (wN ((ng E (keyB b d)) + n)) 2), .int .u64 (limb (wN ((ng E (keyB b d)) + n)) 3)], .bool (wOk ((ng E (keyB b d)) + n))]) (by kernel_rfl) _ (fun _ _ => rfl)) hH3 ?_
                    refine wpAnyH_take (i := 8) (v := .bool (wOk ((ng E (keyB b d)) + n))) rfl (by kernel_rfl) (by kernel_rfl) (by kernel_rfl) (fun _ _ _ h => h) (yk_ext (by kernel_rfl) _ _ rfl (.tuple #[.agg #[.int .u64 (limb (wN ((ng E (keyB b d)) + n)) 0), .int .u64 (limb (wN ((ng E (keyB b d)) + n)) 1), .int .u64 (limb (wN ((ng E (keyB b d)) + n)) 2), .int .u64 (limb (wN ((ng E (keyB b d)) + n)) 3)], .bool (wOk ((ng E (keyB b d)) + n))]) (by kernel_rfl) _ (fun _ _ => rfl)) hH3 ?_
                    refine wpAnyH_ready (rs := [10]) (by kernel_rfl) (by simp) ?_
                    refine AllReadyH.cons rfl (fun K hK => ?_) AllReadyH.nil
                    rw [if_pos (by kernel_rfl)]
                    refine wp_store_mid _ _ _ rfl Z1.heap.size 0 [.int .u64 (limb (wN ((ng E (keyB b d)) + n)) 0), .int .u64 (limb (wN ((ng E (keyB b d)) + n)) 1), .int .u64 (limb (wN ((ng E (keyB b d)) + n)) 2), .int .u64 (limb (wN ((ng E (keyB b d)) + n)) 3)].toArray (by kernel_rfl) (by kernel_rfl) (kz2.there (Nat.le_refl 4)) szW (one4' (wN ((ng E (keyB b d)) + n))) ?_
                    simp only [Act.put, List.getElem_toArray, List.getElem_cons_zero, List.getElem_cons_succ]
                    refine hK.out _ _ (hH3.put (ne1 (by omega)) (by omega) _) (fun hH4 => ?_)
                    clear hK K
                    refine wpAnyH_take (i := 11) (v := .bool (wOk ((ng E (keyB b d)) + n))) rfl (by kernel_rfl) (by kernel_rfl) (by kernel_rfl) (fun _ _ _ h => h) (yk_assign (by kernel_rfl) _ rfl _ (by kernel_rfl)) hH4 ?_
                    refine wpAnyH_done (by kernel_rfl) ?_ _
                    have hB := hH4.hb
                    replace kz2 := setCells_all kz2 [.int .u64 (limb (wN ((ng E (keyB b d)) + n)) 0), .int .u64 (limb (wN ((ng E (keyB b d)) + n)) 1), .int .u64 (limb (wN ((ng E (keyB b d)) + n)) 2), .int .u64 (limb (wN ((ng E (keyB b d)) + n)) 3)] rfl
                    change Exit.then _ _ _ _ (w5.setCells (Z1.heap.size) 0 [.int .u64 (limb (wN ((ng E (keyB b d)) + n)) 0), .int .u64 (limb (wN ((ng E (keyB b d)) + n)) 1), .int .u64 (limb (wN ((ng E (keyB b d)) + n)) 2), .int .u64 (limb (wN ((ng E (keyB b d)) + n)) 3)])
                    generalize w5.setCells (Z1.heap.size) 0 [.int .u64 (limb (wN ((ng E (keyB b d)) + n)) 0), .int .u64 (limb (wN ((ng E (keyB b d)) + n)) 1), .int .u64 (limb (wN ((ng E (keyB b d)) + n)) 2), .int .u64 (limb (wN ((ng E (keyB b d)) + n)) 3)] = Z2 at *
                    clear hH0 hH1 hH2 hH3 hH4 hd3 hd5
                    replace kn := kn.on hB
                    replace kz1 := kz1.on hB
                    have hbZ := BW_on hb1 hB
                    cases h2 : wOk ((ng E (keyB b d)) + n)
                    · obtain ⟨rfl, rfl⟩ := Prod.mk.inj ((rmove_over hm h1 hab h2).symm.trans hR)
                      clear hR
                      go_wp2_with fail
                      go_ret2
                      exact ⟨_, rfl, Ents.nil _, hbZ⟩
                    · obtain ⟨rfl, rfl⟩ := Prod.mk.inj ((rmove_yes hm h1 hab h2).symm.trans hR)
                      clear hR
                      have zk := keyB_size a d
                      have zt := keyB_size b d
                      have C := Lib.hid (fun v w hv => rtwo_any v E (keyB a d) (keyB b d) ((ng E (keyB a d)) - n) (wN ((ng E (keyB b d)) + n)) w hv hs hl (by omega) (by omega) ((ng_lt _ _).sub) (W256.wN _))
                      go_upto_region 15 with (fail)
                      refine wp_region_held_drew (S := BxS w [(gz1, 31, #[.int .u64 (limb ((ng E (keyB a d)) - n) 0), .int .u64 (limb ((ng E (keyB a d)) - n) 1), .int .u64 (limb ((ng E (keyB a d)) - n) 2), .int .u64 (limb ((ng E (keyB a d)) - n) 3)]), (Z1.heap.size, 31, #[.int .u64 (limb (wN ((ng E (keyB b d)) + n)) 0), .int .u64 (limb (wN ((ng E (keyB b d)) + n)) 1), .int .u64 (limb (wN ((ng E (keyB b d)) + n)) 2), .int .u64 (limb (wN ((ng E (keyB b d)) + n)) 3)])]) (by kernel_rfl) (((BxS.nil hbZ).cons kz2).cons kz1).drew (fun hH0 => ?_)
                      refine wpAnyH_take (i := 0) (v := .slice q E.length cap) rfl (by kernel_rfl) (by kernel_rfl) (by kernel_rfl) (fun _ _ _ h => h) (yk_move (by kernel_rfl) _ rfl _ (by kernel_rfl)) hH0 ?_
                      refine wpAnyH_take (i := 1) (v := .string a) rfl (by kernel_rfl) (by kernel_rfl) (by kernel_rfl) (fun _ _ _ h => h) (yk_move (by kernel_rfl) _ rfl _ (by kernel_rfl)) hH0 ?_
                      refine wpAnyH_take (i := 2) (v := .string d) rfl (by kernel_rfl) (by kernel_rfl) (by kernel_rfl) (fun _ _ _ h => h) (yk_move (by kernel_rfl) _ rfl _ (by kernel_rfl)) hH0 ?_
                      refine wpAnyH_take (i := 4) (v := .agg #[.int .u64 (limb ((ng E (keyB a d)) - n) 0), .int .u64 (limb ((ng E (keyB a d)) - n) 1), .int .u64 (limb ((ng E (keyB a d)) - n) 2), .int .u64 (limb ((ng E (keyB a d)) - n) 3)]) rfl (by kernel_rfl) (by kernel_rfl) (by kernel_rfl) (fun _ _ _ h => h) (yk_load (by kernel_rfl) _ _ rfl (.pointer (some ⟨gz1, 0, none⟩)) (by kernel_rfl) _ (fun w' hw' => by have c0 := (hw'.bl _ (.head _)).cell 0; have c1 := (hw'.bl _ (.head _)).cell 1; have c2 := (hw'.bl _ (.head _)).cell 2; have c3 := (hw'.bl _ (.head _)).cell 3; go_simp)) hH0 ?_
                      refine wpAnyH_take (i := 5) (v := .string b) rfl (by kernel_rfl) (by kernel_rfl) (by kernel_rfl) (fun _ _ _ h => h) (yk_move (by kernel_rfl) _ rfl _ (by kernel_rfl)) hH0 ?_
                      refine wpAnyH_take (i := 6) (v := .string d) rfl (by kernel_rfl) (by kernel_rfl) (by kernel_rfl) (fun _ _ _ h => h) (yk_move (by kernel_rfl) _ rfl _ (by kernel_rfl)) hH0 ?_
                      refine wpAnyH_take (i := 8) (v := .agg #[.int .u64 (limb (wN ((ng E (keyB b d)) + n)) 0), .int .u64 (limb (wN ((ng E (keyB b d)) + n)) 1), .int .u64 (limb (wN ((ng E (keyB b d)) + n)) 2), .int .u64 (limb (wN ((ng E (keyB b d)) + n)) 3)]) rfl (by kernel_rfl) (by kernel_rfl) (by kernel_rfl) (fun _ _ _ h => h) (yk_load (by kernel_rfl) _ _ rfl (.pointer (some ⟨Z1.heap.size, 0, none⟩)) (by kernel_rfl) _ (fun w' hw' => by have c0 := (hw'.bl _ (.tail _ (.head _))).cell 0; have c1 := (hw'.bl _ (.tail _ (.head _))).cell 1; have c2 := (hw'.bl _ (.tail _ (.head _))).cell 2; have c3 := (hw'.bl _ (.tail _ (.head _))).cell 3; go_simp)) hH0 ?_
                      refine wpAnyH_ready (rs := [3]) (by kernel_rfl) (by simp) ?_
                      refine AllReadyH.cons rfl (fun K hK => ?_) AllReadyH.nil
                      go_simp
                      go_at_call 54
                      refine (r11key_any a d _ (by omega) (by omega)).mono ?_
                      rintro e w3 ⟨rfl, hd3⟩
                      go_wp2_with fail
                      refine hK.out _ _ (hH0.on hd3) (fun hH1 => ?_)
                      clear hK K
                      refine wpAnyH_ready (rs := [7]) (by kernel_rfl) (by simp) ?_
                      refine AllReadyH.cons rfl (fun K hK => ?_) AllReadyH.nil
                      go_simp
                      go_at_call 54
                      refine (r11key_any b d _ (by omega) (by omega)).mono ?_
                      rintro e w7 ⟨rfl, hd7⟩
                      go_wp2_with fail
                      refine hK.out _ _ (hH1.on hd7) (fun hH2 => ?_)
                      clear hK K
                      refine wpAnyH_ready (rs := [9]) (by kernel_rfl) (by simp) ?_
                      refine AllReadyH.cons rfl (fun K hK => ?_) AllReadyH.nil
                      go_simp
                      go_at_call 61
                      refine (C.out _ _ (hv.on hH2.hb)).mono ?_
                      rintro e w9 ⟨v3, rfl, hen, hd9⟩
                      go_wp2_with fail
                      refine hK.out _ _ (hH2.on hd9) (fun hH3 => ?_)
                      clear hK K
                      refine wpAnyH_take (i := 10) (v := v3) rfl (by kernel_rfl) (by kernel_rfl) (by kernel_rfl) (fun _ _ _ h => h) (yk_ext (by kernel_rfl) _ _ rfl (.tuple #[v3, .int .i64 0]) (by kernel_rfl) _ (fun _ _ => rfl)) hH3 ?_
                      refine wpAnyH_take (i := 11) (v := .int .i64 0) rfl (by kernel_rfl) (by kernel_rfl) (by kernel_rfl) (fun _ _ _ h => h) (yk_ext (by kernel_rfl) _ _ rfl (.tuple #[v3, .int .i64 0]) (by kernel_rfl) _ (fun _ _ => rfl)) hH3 ?_
                      refine wpAnyH_take (i := 12) (v := v3) rfl (by kernel_rfl) (by kernel_rfl) (by kernel_rfl) (fun _ _ _ h => h) (yk_assign (by kernel_rfl) _ rfl _ (by kernel_rfl)) hH3 ?_
                      refine wpAnyH_take (i := 13) (v := .int .i64 0) rfl (by kernel_rfl) (by kernel_rfl) (by kernel_rfl) (fun _ _ _ h => h) (yk_assign (by kernel_rfl) _ rfl _ (by kernel_rfl)) hH3 ?_
                      refine wpAnyH_done (by kernel_rfl) ?_ _
                      have hbf := hH3.hb
                      go_wp2_with fail
                      go_ret2
                      exact ⟨v3, rfl, hen, hbf⟩
          · have kz1 : Blk (W.drew.alloc (.cells #[.int .u64 0, .int .u64 0, .int .u64 0, .int .u64 0] 31)) (W.heap.size) 31 #[.int .u64 0, .int .u64 0, .int .u64 0, .int .u64 0] := blk1 W.drew _ _
            have hzl1 : W.heap.size ≤ W.heap.size := hH0.hb.size
            go_simp
            refine hK.out _ _ (hH0.on (BW_alloc (BW_refl _) _)) (fun hH1 => ?_)
            clear hK K
            refine wpAnyH_ready (rs := [3]) (by kernel_rfl) (by simp) ?_
            refine AllReadyH.cons rfl (fun K hK => ?_) AllReadyH.nil
            go_simp
            go_at_call 24
            refine (r11bal_any _ E a d _ (hvW.on hH1.hb) (by omega) (by omega) (by omega)).mono ?_
            rintro e w3 ⟨rfl, hd3⟩
            go_wp2_with fail
            refine hK.out _ _ (hH1.on hd3) (fun hH2 => ?_)
            clear hK K
            replace kz1 := kz1.on hd3
            refine wpAnyH_ready (rs := [5]) (by kernel_rfl) (by simp) ?_
            refine AllReadyH.cons rfl (fun K hK => ?_) AllReadyH.nil
            go_simp
            go_at_call 23
            refine (rsub_any (ng E (keyB a d)) n (ng_lt _ _) hn _).mono ?_
            rintro e w5 ⟨rfl, hd5⟩
            go_wp2_with fail
            refine hK.out _ _ (hH2.on hd5) (fun hH3 => ?_)
            clear hK K
            replace kz1 := kz1.on hd5
            refine wpAnyH_take (i := 6) (v := .tuple #[.agg #[.int .u64 (limb ((ng E (keyB a d)) - n) 0), .int .u64 (limb ((ng E (keyB a d)) - n) 1), .int .u64 (limb ((ng E (keyB a d)) - n) 2), .int .u64 (limb ((ng E (keyB a d)) - n) 3)], .bool (decide (n ≤ (ng E (keyB a d))))]) rfl (by kernel_rfl) (by kernel_rfl) (by kernel_rfl) (fun _ _ _ h => h) (yk_move (by kernel_rfl) _ rfl _ (by kernel_rfl)) hH3 ?_
            refine wpAnyH_take (i := 7) (v := .agg #[.int .u64 (limb ((ng E (keyB a d)) - n) 0), .int .u64 (limb ((ng E (keyB a d)) - n) 1), .int .u64 (limb ((ng E (keyB a d)) - n) 2), .int .u64 (limb ((ng E (keyB a d)) - n) 3)]) rfl (by kernel_rfl) (by kernel_rfl) (by kernel_rfl) (fun _ _ _ h => h) (yk_ext (by kernel_rfl) _ _ rfl (.tuple #[.agg #[.int .u64 (limb ((ng E (keyB a d)) - n) 0), .int .u64 (limb ((ng E (keyB a d)) - n) 1), .int .u64 (limb ((ng E (keyB a d)) - n) 2), .int .u64 (limb ((ng E (keyB a d)) - n) 3)], .bool (decide (n ≤ (ng E (keyB a d))))]) (by kernel_rfl) _ (fun _ _ => rfl)) hH3 ?_
            refine wpAnyH_take (i := 8) (v := .bool (decide (n ≤ (ng E (keyB a d))))) rfl (by kernel_rfl) (by kernel_rfl) (by kernel_rfl) (fun _ _ _ h => h) (yk_ext (by kernel_rfl) _ _ rfl (.tuple #[.agg #[.int .u64 (limb ((ng E (keyB a d)) - n) 0), .int .u64 (limb ((ng E (keyB a d)) - n) 1), .int .u64 (limb ((ng E (keyB a d)) - n) 2), .int .u64 (limb ((ng E (keyB a d)) - n) 3)], .bool (decide (n ≤ (ng E (keyB a d))))]) (by kernel_rfl) _ (fun _ _ => rfl)) hH3 ?_
            refine wpAnyH_ready (rs := [10]) (by kernel_rfl) (by simp) ?_
            refine AllReadyH.cons rfl (fun K hK => ?_) AllReadyH.nil
            rw [if_pos (by kernel_rfl)]
            refine wp_store_mid _ _ _ rfl W.heap.size 0 [.int .u64 (limb ((ng E (keyB a d)) - n) 0), .int .u64 (limb ((ng E (keyB a d)) - n) 1), .int .u64 (limb ((ng E (keyB a d)) - n) 2), .int .u64 (limb ((ng E (keyB a d)) - n) 3)].toArray (by kernel_rfl) (by kernel_rfl) (kz1.there (Nat.le_refl 4)) szW (one4' ((ng E (keyB a d)) - n)) ?_
            simp only [Act.put, List.getElem_toArray, List.getElem_cons_zero, List.getElem_cons_succ]
            refine hK.out _ _ (hH3.put (ne1 (by omega)) (by omega) _) (fun hH4 => ?_)
            clear hK K
            refine wpAnyH_take (i := 11) (v := .bool (decide (n ≤ (ng E (keyB a d))))) rfl (by kernel_rfl) (by kernel_rfl) (by kernel_rfl) (fun _ _ _ h => h) (yk_assign (by kernel_rfl) _ rfl _ (by kernel_rfl)) hH4 ?_
            refine wpAnyH_done (by kernel_rfl) ?_ _
            have hB := hH4.hb
            replace kz1 := setCells_all kz1 [.int .u64 (limb ((ng E (keyB a d)) - n) 0), .int .u64 (limb ((ng E (keyB a d)) - n) 1), .int .u64 (limb ((ng E (keyB a d)) - n) 2), .int .u64 (limb ((ng E (keyB a d)) - n) 3)] rfl
            change Exit.then _ _ _ _ (w5.setCells (W.heap.size) 0 [.int .u64 (limb ((ng E (keyB a d)) - n) 0), .int .u64 (limb ((ng E (keyB a d)) - n) 1), .int .u64 (limb ((ng E (keyB a d)) - n) 2), .int .u64 (limb ((ng E (keyB a d)) - n) 3)])
            generalize w5.setCells (W.heap.size) 0 [.int .u64 (limb ((ng E (keyB a d)) - n) 0), .int .u64 (limb ((ng E (keyB a d)) - n) 1), .int .u64 (limb ((ng E (keyB a d)) - n) 2), .int .u64 (limb ((ng E (keyB a d)) - n) 3)] = Z1 at *
            clear hH0 hH1 hH2 hH3 hH4 hd3 hd5
            have hb1 := BW_on hb0 hB
            replace kn := kn.on hB
            clear hB
            have hvZ := hv.on hb1
            have hszz := kn.lt
            cases h1 : decide (n ≤ (ng E (keyB a d)))
            · obtain ⟨rfl, rfl⟩ := Prod.mk.inj ((rmove_no hm h1).symm.trans hR)
              clear hR
              go_wp2_with fail
              go_ret2
              exact ⟨_, rfl, Ents.nil _, hb1⟩
            · by_cases hab : a = b
              · subst hab
                have hbq : (a.toList == a.toList) = true := beq_self_eq_true _
                obtain ⟨rfl, rfl⟩ := Prod.mk.inj ((rmove_self hm h1).symm.trans hR)
                clear hR
                go_wp2_with fail
                go_ret2
                exact ⟨_, rfl, hvZ, hb1⟩
              · have hbq : (a.toList == b.toList) = false := by rw [beq_kl]; exact decide_eq_false hab
                go_upto_region 12 with (fail)
                refine wp_region_held_drew (S := BxS Z1 [(w.heap.size, 31, #[.int .u64 (limb n 0), .int .u64 (limb n 1), .int .u64 (limb n 2), .int .u64 (limb n 3)])]) (by kernel_rfl) ((BxS.nil (BW_refl Z1)).cons kn).drew (fun hH0 => ?_)
                refine wpAnyH_take (i := 0) (v := .slice q E.length cap) rfl (by kernel_rfl) (by kernel_rfl) (by kernel_rfl) (fun _ _ _ h => h) (yk_move (by kernel_rfl) _ rfl _ (by kernel_rfl)) hH0 ?_
                refine wpAnyH_take (i := 1) (v := .string b) rfl (by kernel_rfl) (by kernel_rfl) (by kernel_rfl) (fun _ _ _ h => h) (yk_move (by kernel_rfl) _ rfl _ (by kernel_rfl)) hH0 ?_
                refine wpAnyH_take (i := 2) (v := .string d) rfl (by kernel_rfl) (by kernel_rfl) (by kernel_rfl) (fun _ _ _ h => h) (yk_move (by kernel_rfl) _ rfl _ (by kernel_rfl)) hH0 ?_
                refine wpAnyH_take (i := 4) (v := .agg #[.int .u64 (limb n 0), .int .u64 (limb n 1), .int .u64 (limb n 2), .int .u64 (limb n 3)]) rfl (by kernel_rfl) (by kernel_rfl) (by kernel_rfl) (fun _ _ _ h => h) (yk_load (by kernel_rfl) _ _ rfl (.pointer (some ⟨w.heap.size, 0, none⟩)) (by kernel_rfl) _ (fun w' hw' => by have c0 := (hw'.bl _ (.head _)).cell 0; have c1 := (hw'.bl _ (.head _)).cell 1; have c2 := (hw'.bl _ (.head _)).cell 2; have c3 := (hw'.bl _ (.head _)).cell 3; go_simp)) hH0 ?_
                refine wpAnyH_ready (rs := [3, 9]) (by kernel_rfl) (by simp) ?_
                refine AllReadyH.cons rfl (fun K hK => ?_) (AllReadyH.cons rfl (fun K hK => ?_) (AllReadyH.nil))
                · go_simp
                  go_at_call 24
                  refine (r11bal_any _ E b d _ (hvZ.on hH0.hb) (by omega) (by omega) (by omega)).mono ?_
                  rintro e w3 ⟨rfl, hd3⟩
                  go_wp2_with fail
                  refine hK.out _ _ (hH0.on hd3) (fun hH1 => ?_)
                  clear hK K
                  
                  refine wpAnyH_ready (rs := [5, 9]) (by kernel_rfl) (by simp) ?_
                  refine AllReadyH.cons rfl (fun K hK => ?_) (AllReadyH.cons rfl (fun K hK => ?_) (AllReadyH.nil))
                  · go_simp
                    go_at_call 22
                    refine (radd_any (ng E (keyB b d)) n (ng_lt _ _) hn _).mono ?_
                    rintro e w5 ⟨rfl, hd5⟩
                    go_wp2_with fail
                    refine hK.out _ _ (hH1.on hd5) (fun hH2 => ?_)
                    clear hK K
                    
                    refine wpAnyH_take (i := 6) (v := .tuple #[.agg #[.int .u64 (limb (wN ((ng E (keyB b d)) + n)) 0), .int .u64 (limb (wN ((ng E (keyB b d)) + n)) 1), .int .u64 (limb (wN ((ng E (keyB b d)) + n)) 2), .int .u64 (limb (wN ((ng E (keyB b d)) + n)) 3)], .bool (wOk ((ng E (keyB b d)) + n))]) rfl (by kernel_rfl) (by kernel_rfl) (by kernel_rfl) (fun _ _ _ h => h) (yk_move (by kernel_rfl) _ rfl _ (by kernel_rfl)) hH2 ?_
                    refine wpAnyH_take (i := 7) (v := .agg #[.int .u64 (limb (wN ((ng E (keyB b d)) + n)) 0), .int .u64 (limb (wN ((ng E (keyB b d)) + n)) 1), .int .u64 (limb (wN ((ng E (keyB b d)) + n)) 2), .int .u64 (limb (wN ((ng E (keyB b d)) + n)) 3)]) rfl (by kernel_rfl) (by kernel_rfl) (by kernel_rfl) (fun _ _ _ h => h) (yk_ext (by kernel_rfl) _ _ rfl (.tuple #[.agg #[.int .u64 (limb (wN ((ng E (keyB b d)) + n)) 0), .int .u64 (limb (wN ((ng E (keyB b d)) + n)) 1), .int .u64 (limb (wN ((ng E (keyB b d)) + n)) 2), .int .u64 (limb (wN ((ng E (keyB b d)) + n)) 3)], .bool (wOk ((ng E (keyB b d)) + n))]) (by kernel_rfl) _ (fun _ _ => rfl)) hH2 ?_
                    refine wpAnyH_take (i := 8) (v := .bool (wOk ((ng E (keyB b d)) + n))) rfl (by kernel_rfl) (by kernel_rfl) (by kernel_rfl) (fun _ _ _ h => h) (yk_ext (by kernel_rfl) _ _ rfl (.tuple #[.agg #[.int .u64 (limb (wN ((ng E (keyB b d)) + n)) 0), .int .u64 (limb (wN ((ng E (keyB b d)) + n)) 1), .int .u64 (limb (wN ((ng E (keyB b d)) + n)) 2), .int .u64 (limb (wN ((ng E (keyB b d)) + n)) 3)], .bool (wOk ((ng E (keyB b d)) + n))]) (by kernel_rfl) _ (fun _ _ => rfl)) hH2 ?_
                    have kz2 : Blk (w5.alloc (.cells #[.int .u64 0, .int .u64 0, .int .u64 0, .int .u64 0] 31)) (w5.heap.size) 31 #[.int .u64 0, .int .u64 0, .int .u64 0, .int .u64 0] := blk1 w5 _ _
                    have hzl2 : Z1.heap.size ≤ w5.heap.size := hH2.hb.size
                    refine wpAnyH_ready (rs := [9]) (by kernel_rfl) (by simp) ?_
                    refine AllReadyH.cons rfl (fun K hK => ?_) AllReadyH.nil
                    go_simp
                    refine hK.out _ _ (hH2.on (BW_alloc (BW_refl _) _)) (fun hH3 => ?_)
                    clear hK K
                    refine wpAnyH_ready (rs := [10]) (by kernel_rfl) (by simp) ?_
                    refine AllReadyH.cons rfl (fun K hK => ?_) AllReadyH.nil
                    rw [if_pos (by kernel_rfl)]
                    refine wp_store_mid _ _ _ rfl w5.heap.size 0 [.int .u64 (limb (wN ((ng E (keyB b d)) + n)) 0), .int .u64 (limb (wN ((ng E (keyB b d)) + n)) 1), .int .u64 (limb (wN ((ng E (keyB b d)) + n)) 2), .int .u64 (limb (wN ((ng E (keyB b d)) + n)) 3)].toArray (by kernel_rfl) (by kernel_rfl) (kz2.there (Nat.le_refl 4)) szW (one4' (wN ((ng E (keyB b d)) + n))) ?_
                    simp only [Act.put, List.getElem_toArray, List.getElem_cons_zero, List.getElem_cons_succ]
                    refine hK.out _ _ (hH3.put (ne1 (by omega)) (by omega) _) (fun hH4 => ?_)
                    clear hK K
                    refine wpAnyH_take (i := 11) (v := .bool (wOk ((ng E (keyB b d)) + n))) rfl (by kernel_rfl) (by kernel_rfl) (by kernel_rfl) (fun _ _ _ h => h) (yk_assign (by kernel_rfl) _ rfl _ (by kernel_rfl)) hH4 ?_
                    refine wpAnyH_done (by kernel_rfl) ?_ _
                    have hB := hH4.hb
                    replace kz2 := setCells_all kz2 [.int .u64 (limb (wN ((ng E (keyB b d)) + n)) 0), .int .u64 (limb (wN ((ng E (keyB b d)) + n)) 1), .int .u64 (limb (wN ((ng E (keyB b d)) + n)) 2), .int .u64 (limb (wN ((ng E (keyB b d)) + n)) 3)] rfl
                    change Exit.then _ _ _ _ ((w5.alloc (.cells #[.int .u64 0, .int .u64 0, .int .u64 0, .int .u64 0] 31)).setCells (w5.heap.size) 0 [.int .u64 (limb (wN ((ng E (keyB b d)) + n)) 0), .int .u64 (limb (wN ((ng E (keyB b d)) + n)) 1), .int .u64 (limb (wN ((ng E (keyB b d)) + n)) 2), .int .u64 (limb (wN ((ng E (keyB b d)) + n)) 3)])
                    generalize (w5.alloc (.cells #[.int .u64 0, .int .u64 0, .int .u64 0, .int .u64 0] 31)).setCells (w5.heap.size) 0 [.int .u64 (limb (wN ((ng E (keyB b d)) + n)) 0), .int .u64 (limb (wN ((ng E (keyB b d)) + n)) 1), .int .u64 (limb (wN ((ng E (keyB b d)) + n)) 2), .int .u64 (limb (wN ((ng E (keyB b d)) + n)) 3)] = Z2 at *
                    generalize w5.heap.size = gz2 at *
                    clear hH0 hH1 hH2 hH3 hH4 hd3 hd5
                    replace kn := kn.on hB
                    replace kz1 := kz1.on hB
                    have hbZ := BW_on hb1 hB
                    cases h2 : wOk ((ng E (keyB b d)) + n)
                    · obtain ⟨rfl, rfl⟩ := Prod.mk.inj ((rmove_over hm h1 hab h2).symm.trans hR)
                      clear hR
                      go_wp2_with fail
                      go_ret2
                      exact ⟨_, rfl, Ents.nil _, hbZ⟩
                    · obtain ⟨rfl, rfl⟩ := Prod.mk.inj ((rmove_yes hm h1 hab h2).symm.trans hR)
                      clear hR
                      have zk := keyB_size a d
                      have zt := keyB_size b d
                      have C := Lib.hid (fun v w hv => rtwo_any v E (keyB a d) (keyB b d) ((ng E (keyB a d)) - n) (wN ((ng E (keyB b d)) + n)) w hv hs hl (by omega) (by omega) ((ng_lt _ _).sub) (W256.wN _))
                      go_upto_region 15 with (fail)
                      refine wp_region_held_drew (S := BxS w [(W.heap.size, 31, #[.int .u64 (limb ((ng E (keyB a d)) - n) 0), .int .u64 (limb ((ng E (keyB a d)) - n) 1), .int .u64 (limb ((ng E (keyB a d)) - n) 2), .int .u64 (limb ((ng E (keyB a d)) - n) 3)]), (gz2, 31, #[.int .u64 (limb (wN ((ng E (keyB b d)) + n)) 0), .int .u64 (limb (wN ((ng E (keyB b d)) + n)) 1), .int .u64 (limb (wN ((ng E (keyB b d)) + n)) 2), .int .u64 (limb (wN ((ng E (keyB b d)) + n)) 3)])]) (by kernel_rfl) (((BxS.nil hbZ).cons kz2).cons kz1).drew (fun hH0 => ?_)
                      refine wpAnyH_take (i := 0) (v := .slice q E.length cap) rfl (by kernel_rfl) (by kernel_rfl) (by kernel_rfl) (fun _ _ _ h => h) (yk_move (by kernel_rfl) _ rfl _ (by kernel_rfl)) hH0 ?_
                      refine wpAnyH_take (i := 1) (v := .string a) rfl (by kernel_rfl) (by kernel_rfl) (by kernel_rfl) (fun _ _ _ h => h) (yk_move (by kernel_rfl) _ rfl _ (by kernel_rfl)) hH0 ?_
                      refine wpAnyH_take (i := 2) (v := .string d) rfl (by kernel_rfl) (by kernel_rfl) (by kernel_rfl) (fun _ _ _ h => h) (yk_move (by kernel_rfl) _ rfl _ (by kernel_rfl)) hH0 ?_
                      refine wpAnyH_take (i := 4) (v := .agg #[.int .u64 (limb ((ng E (keyB a d)) - n) 0), .int .u64 (limb ((ng E (keyB a d)) - n) 1), .int .u64 (limb ((ng E (keyB a d)) - n) 2), .int .u64 (limb ((ng E (keyB a d)) - n) 3)]) rfl (by kernel_rfl) (by kernel_rfl) (by kernel_rfl) (fun _ _ _ h => h) (yk_load (by kernel_rfl) _ _ rfl (.pointer (some ⟨W.heap.size, 0, none⟩)) (by kernel_rfl) _ (fun w' hw' => by have c0 := (hw'.bl _ (.head _)).cell 0; have c1 := (hw'.bl _ (.head _)).cell 1; have c2 := (hw'.bl _ (.head _)).cell 2; have c3 := (hw'.bl _ (.head _)).cell 3; go_simp)) hH0 ?_
                      refine wpAnyH_take (i := 5) (v := .string b) rfl (by kernel_rfl) (by kernel_rfl) (by kernel_rfl) (fun _ _ _ h => h) (yk_move (by kernel_rfl) _ rfl _ (by kernel_rfl)) hH0 ?_
                      refine wpAnyH_take (i := 6) (v := .string d) rfl (by kernel_rfl) (by kernel_rfl) (by kernel_rfl) (fun _ _ _ h => h) (yk_move (by kernel_rfl) _ rfl _ (by kernel_rfl)) hH0 ?_
                      refine wpAnyH_take (i := 8) (v := .agg #[.int .u64 (limb (wN ((ng E (keyB b d)) + n)) 0), .int .u64 (limb (wN ((ng E (keyB b d)) + n)) 1), .int .u64 (limb (wN ((ng E (keyB b d)) + n)) 2), .int .u64 (limb (wN ((ng E (keyB b d)) + n)) 3)]) rfl (by kernel_rfl) (by kernel_rfl) (by kernel_rfl) (fun _ _ _ h => h) (yk_load (by kernel_rfl) _ _ rfl (.pointer (some ⟨gz2, 0, none⟩)) (by kernel_rfl) _ (fun w' hw' => by have c0 := (hw'.bl _ (.tail _ (.head _))).cell 0; have c1 := (hw'.bl _ (.tail _ (.head _))).cell 1; have c2 := (hw'.bl _ (.tail _ (.head _))).cell 2; have c3 := (hw'.bl _ (.tail _ (.head _))).cell 3; go_simp)) hH0 ?_
                      refine wpAnyH_ready (rs := [3]) (by kernel_rfl) (by simp) ?_
                      refine AllReadyH.cons rfl (fun K hK => ?_) AllReadyH.nil
                      go_simp
                      go_at_call 54
                      refine (r11key_any a d _ (by omega) (by omega)).mono ?_
                      rintro e w3 ⟨rfl, hd3⟩
                      go_wp2_with fail
                      refine hK.out _ _ (hH0.on hd3) (fun hH1 => ?_)
                      clear hK K
                      refine wpAnyH_ready (rs := [7]) (by kernel_rfl) (by simp) ?_
                      refine AllReadyH.cons rfl (fun K hK => ?_) AllReadyH.nil
                      go_simp
                      go_at_call 54
                      refine (r11key_any b d _ (by omega) (by omega)).mono ?_
                      rintro e w7 ⟨rfl, hd7⟩
                      go_wp2_with fail
                      refine hK.out _ _ (hH1.on hd7) (fun hH2 => ?_)
                      clear hK K
                      refine wpAnyH_ready (rs := [9]) (by kernel_rfl) (by simp) ?_
                      refine AllReadyH.cons rfl (fun K hK => ?_) AllReadyH.nil
                      go_simp
                      go_at_call 61
                      refine (C.out _ _ (hv.on hH2.hb)).mono ?_
                      rintro e w9 ⟨v3, rfl, hen, hd9⟩
                      go_wp2_with fail
                      refine hK.out _ _ (hH2.on hd9) (fun hH3 => ?_)
                      clear hK K
                      refine wpAnyH_take (i := 10) (v := v3) rfl (by kernel_rfl) (by kernel_rfl) (by kernel_rfl) (fun _ _ _ h => h) (yk_ext (by kernel_rfl) _ _ rfl (.tuple #[v3, .int .i64 0]) (by kernel_rfl) _ (fun _ _ => rfl)) hH3 ?_
                      refine wpAnyH_take (i := 11) (v := .int .i64 0) rfl (by kernel_rfl) (by kernel_rfl) (by kernel_rfl) (fun _ _ _ h => h) (yk_ext (by kernel_rfl) _ _ rfl (.tuple #[v3, .int .i64 0]) (by kernel_rfl) _ (fun _ _ => rfl)) hH3 ?_
                      refine wpAnyH_take (i := 12) (v := v3) rfl (by kernel_rfl) (by kernel_rfl) (by kernel_rfl) (fun _ _ _ h => h) (yk_assign (by kernel_rfl) _ rfl _ (by kernel_rfl)) hH3 ?_
                      refine wpAnyH_take (i := 13) (v := .int .i64 0) rfl (by kernel_rfl) (by kernel_rfl) (by kernel_rfl) (fun _ _ _ h => h) (yk_assign (by kernel_rfl) _ rfl _ (by kernel_rfl)) hH3 ?_
                      refine wpAnyH_done (by kernel_rfl) ?_ _
                      have hbf := hH3.hb
                      go_wp2_with fail
                      go_ret2
                      exact ⟨v3, rfl, hen, hbf⟩
                  · have kz2 : Blk (w3.alloc (.cells #[.int .u64 0, .int .u64 0, .int .u64 0, .int .u64 0] 31)) (w3.heap.size) 31 #[.int .u64 0, .int .u64 0, .int .u64 0, .int .u64 0] := blk1 w3 _ _
                    have hzl2 : Z1.heap.size ≤ w3.heap.size := hH1.hb.size
                    go_simp
                    refine hK.out _ _ (hH1.on (BW_alloc (BW_refl _) _)) (fun hH2 => ?_)
                    clear hK K
                    refine wpAnyH_ready (rs := [5]) (by kernel_rfl) (by simp) ?_
                    refine AllReadyH.cons rfl (fun K hK => ?_) AllReadyH.nil
                    go_simp
                    go_at_call 22
                    refine (radd_any (ng E (keyB b d)) n (ng_lt _ _) hn _).mono ?_
                    rintro e w5 ⟨rfl, hd5⟩
                    go_wp2_with fail
                    refine hK.out _ _ (hH2.on hd5) (fun hH3 => ?_)
                    clear hK K
                    replace kz2 := kz2.on hd5
                    refine wpAnyH_take (i := 6) (v := .tuple #[.agg #[.int .u64 (limb (wN ((ng E (keyB b d)) + n)) 0), .int .u64 (limb (wN ((ng E (keyB b d)) + n)) 1), .int .u64 (limb (wN ((ng E (keyB b d)) + n)) 2), .int .u64 (limb (wN ((ng E (keyB b d)) + n)) 3)], .bool (wOk ((ng E (keyB b d)) + n))]) rfl (by kernel_rfl) (by kernel_rfl) (by kernel_rfl) (fun _ _ _ h => h) (yk_move (by kernel_rfl) _ rfl _ (by kernel_rfl)) hH3 ?_
                    refine wpAnyH_take (i := 7) (v := .agg #[.int .u64 (limb (wN ((ng E (keyB b d)) + n)) 0), .int .u64 (limb (wN ((ng E (keyB b d)) + n)) 1), .int .u64 (limb (wN ((ng E (keyB b d)) + n)) 2), .int .u64 (limb (wN ((ng E (keyB b d)) + n)) 3)]) rfl (by kernel_rfl) (by kernel_rfl) (by kernel_rfl) (fun _ _ _ h => h) (yk_ext (by kernel_rfl) _ _ rfl (.tuple #[.agg #[.int .u64 (limb (wN ((ng E (keyB b d)) + n)) 0), .int .u64 (limb (wN ((ng E (keyB b d)) + n)) 1), .int .u64 (limb (wN ((ng E (keyB b d)) + n)) 2), .int .u64 (limb (wN ((ng E (keyB b d)) + n)) 3)], .bool (wOk ((ng E (keyB b d)) + n))]) (by kernel_rfl) _ (fun _ _ => rfl)) hH3 ?_
                    refine wpAnyH_take (i := 8) (v := .bool (wOk ((ng E (keyB b d)) + n))) rfl (by kernel_rfl) (by kernel_rfl) (by kernel_rfl) (fun _ _ _ h => h) (yk_ext (by kernel_rfl) _ _ rfl (.tuple #[.agg #[.int .u64 (limb (wN ((ng E (keyB b d)) + n)) 0), .int .u64 (limb (wN ((ng E (keyB b d)) + n)) 1), .int .u64 (limb (wN ((ng E (keyB b d)) + n)) 2), .int .u64 (limb (wN ((ng E (keyB b d)) + n)) 3)], .bool (wOk ((ng E (keyB b d)) + n))]) (by kernel_rfl) _ (fun _ _ => rfl)) hH3 ?_
                    refine wpAnyH_ready (rs := [10]) (by kernel_rfl) (by simp) ?_
                    refine AllReadyH.cons rfl (fun K hK => ?_) AllReadyH.nil
                    rw [if_pos (by kernel_rfl)]
                    refine wp_store_mid _ _ _ rfl w3.heap.size 0 [.int .u64 (limb (wN ((ng E (keyB b d)) + n)) 0), .int .u64 (limb (wN ((ng E (keyB b d)) + n)) 1), .int .u64 (limb (wN ((ng E (keyB b d)) + n)) 2), .int .u64 (limb (wN ((ng E (keyB b d)) + n)) 3)].toArray (by kernel_rfl) (by kernel_rfl) (kz2.there (Nat.le_refl 4)) szW (one4' (wN ((ng E (keyB b d)) + n))) ?_
                    simp only [Act.put, List.getElem_toArray, List.getElem_cons_zero, List.getElem_cons_succ]
                    refine hK.out _ _ (hH3.put (ne1 (by omega)) (by omega) _) (fun hH4 => ?_)
                    clear hK K
                    refine wpAnyH_take (i := 11) (v := .bool (wOk ((ng E (keyB b d)) + n))) rfl (by kernel_rfl) (by kernel_rfl) (by kernel_rfl) (fun _ _ _ h => h) (yk_assign (by kernel_rfl) _ rfl _ (by kernel_rfl)) hH4 ?_
                    refine wpAnyH_done (by kernel_rfl) ?_ _
                    have hB := hH4.hb
                    replace kz2 := setCells_all kz2 [.int .u64 (limb (wN ((ng E (keyB b d)) + n)) 0), .int .u64 (limb (wN ((ng E (keyB b d)) + n)) 1), .int .u64 (limb (wN ((ng E (keyB b d)) + n)) 2), .int .u64 (limb (wN ((ng E (keyB b d)) + n)) 3)] rfl
                    change Exit.then _ _ _ _ (w5.setCells (w3.heap.size) 0 [.int .u64 (limb (wN ((ng E (keyB b d)) + n)) 0), .int .u64 (limb (wN ((ng E (keyB b d)) + n)) 1), .int .u64 (limb (wN ((ng E (keyB b d)) + n)) 2), .int .u64 (limb (wN ((ng E (keyB b d)) + n)) 3)])
                    generalize w5.setCells (w3.heap.size) 0 [.int .u64 (limb (wN ((ng E (keyB b d)) + n)) 0), .int .u64 (limb (wN ((ng E (keyB b d)) + n)) 1), .int .u64 (limb (wN ((ng E (keyB b d)) + n)) 2), .int .u64 (limb (wN ((ng E (keyB b d)) + n)) 3)] = Z2 at *
                    generalize w3.heap.size = gz2 at *
                    clear hH0 hH1 hH2 hH3 hH4 hd3 hd5
                    replace kn := kn.on hB
                    replace kz1 := kz1.on hB
                    have hbZ := BW_on hb1 hB
                    cases h2 : wOk ((ng E (keyB b d)) + n)
                    · obtain ⟨rfl, rfl⟩ := Prod.mk.inj ((rmove_over hm h1 hab h2).symm.trans hR)
                      clear hR
                      go_wp2_with fail
                      go_ret2
                      exact ⟨_, rfl, Ents.nil _, hbZ⟩
                    · obtain ⟨rfl, rfl⟩ := Prod.mk.inj ((rmove_yes hm h1 hab h2).symm.trans hR)
                      clear hR
                      have zk := keyB_size a d
                      have zt := keyB_size b d
                      have C := Lib.hid (fun v w hv => rtwo_any v E (keyB a d) (keyB b d) ((ng E (keyB a d)) - n) (wN ((ng E (keyB b d)) + n)) w hv hs hl (by omega) (by omega) ((ng_lt _ _).sub) (W256.wN _))
                      go_upto_region 15 with (fail)
                      refine wp_region_held_drew (S := BxS w [(W.heap.size, 31, #[.int .u64 (limb ((ng E (keyB a d)) - n) 0), .int .u64 (limb ((ng E (keyB a d)) - n) 1), .int .u64 (limb ((ng E (keyB a d)) - n) 2), .int .u64 (limb ((ng E (keyB a d)) - n) 3)]), (gz2, 31, #[.int .u64 (limb (wN ((ng E (keyB b d)) + n)) 0), .int .u64 (limb (wN ((ng E (keyB b d)) + n)) 1), .int .u64 (limb (wN ((ng E (keyB b d)) + n)) 2), .int .u64 (limb (wN ((ng E (keyB b d)) + n)) 3)])]) (by kernel_rfl) (((BxS.nil hbZ).cons kz2).cons kz1).drew (fun hH0 => ?_)
                      refine wpAnyH_take (i := 0) (v := .slice q E.length cap) rfl (by kernel_rfl) (by kernel_rfl) (by kernel_rfl) (fun _ _ _ h => h) (yk_move (by kernel_rfl) _ rfl _ (by kernel_rfl)) hH0 ?_
                      refine wpAnyH_take (i := 1) (v := .string a) rfl (by kernel_rfl) (by kernel_rfl) (by kernel_rfl) (fun _ _ _ h => h) (yk_move (by kernel_rfl) _ rfl _ (by kernel_rfl)) hH0 ?_
                      refine wpAnyH_take (i := 2) (v := .string d) rfl (by kernel_rfl) (by kernel_rfl) (by kernel_rfl) (fun _ _ _ h => h) (yk_move (by kernel_rfl) _ rfl _ (by kernel_rfl)) hH0 ?_
                      refine wpAnyH_take (i := 4) (v := .agg #[.int .u64 (limb ((ng E (keyB a d)) - n) 0), .int .u64 (limb ((ng E (keyB a d)) - n) 1), .int .u64 (limb ((ng E (keyB a d)) - n) 2), .int .u64 (limb ((ng E (keyB a d)) - n) 3)]) rfl (by kernel_rfl) (by kernel_rfl) (by kernel_rfl) (fun _ _ _ h => h) (yk_load (by kernel_rfl) _ _ rfl (.pointer (some ⟨W.heap.size, 0, none⟩)) (by kernel_rfl) _ (fun w' hw' => by have c0 := (hw'.bl _ (.head _)).cell 0; have c1 := (hw'.bl _ (.head _)).cell 1; have c2 := (hw'.bl _ (.head _)).cell 2; have c3 := (hw'.bl _ (.head _)).cell 3; go_simp)) hH0 ?_
                      refine wpAnyH_take (i := 5) (v := .string b) rfl (by kernel_rfl) (by kernel_rfl) (by kernel_rfl) (fun _ _ _ h => h) (yk_move (by kernel_rfl) _ rfl _ (by kernel_rfl)) hH0 ?_
                      refine wpAnyH_take (i := 6) (v := .string d) rfl (by kernel_rfl) (by kernel_rfl) (by kernel_rfl) (fun _ _ _ h => h) (yk_move (by kernel_rfl) _ rfl _ (by kernel_rfl)) hH0 ?_
                      refine wpAnyH_take (i := 8) (v := .agg #[.int .u64 (limb (wN ((ng E (keyB b d)) + n)) 0), .int .u64 (limb (wN ((ng E (keyB b d)) + n)) 1), .int .u64 (limb (wN ((ng E (keyB b d)) + n)) 2), .int .u64 (limb (wN ((ng E (keyB b d)) + n)) 3)]) rfl (by kernel_rfl) (by kernel_rfl) (by kernel_rfl) (fun _ _ _ h => h) (yk_load (by kernel_rfl) _ _ rfl (.pointer (some ⟨gz2, 0, none⟩)) (by kernel_rfl) _ (fun w' hw' => by have c0 := (hw'.bl _ (.tail _ (.head _))).cell 0; have c1 := (hw'.bl _ (.tail _ (.head _))).cell 1; have c2 := (hw'.bl _ (.tail _ (.head _))).cell 2; have c3 := (hw'.bl _ (.tail _ (.head _))).cell 3; go_simp)) hH0 ?_
                      refine wpAnyH_ready (rs := [3]) (by kernel_rfl) (by simp) ?_
                      refine AllReadyH.cons rfl (fun K hK => ?_) AllReadyH.nil
                      go_simp
                      go_at_call 54
                      refine (r11key_any a d _ (by omega) (by omega)).mono ?_
                      rintro e w3 ⟨rfl, hd3⟩
                      go_wp2_with fail
                      refine hK.out _ _ (hH0.on hd3) (fun hH1 => ?_)
                      clear hK K
                      refine wpAnyH_ready (rs := [7]) (by kernel_rfl) (by simp) ?_
                      refine AllReadyH.cons rfl (fun K hK => ?_) AllReadyH.nil
                      go_simp
                      go_at_call 54
                      refine (r11key_any b d _ (by omega) (by omega)).mono ?_
                      rintro e w7 ⟨rfl, hd7⟩
                      go_wp2_with fail
                      refine hK.out _ _ (hH1.on hd7) (fun hH2 => ?_)
                      clear hK K
                      refine wpAnyH_ready (rs := [9]) (by kernel_rfl) (by simp) ?_
                      refine AllReadyH.cons rfl (fun K hK => ?_) AllReadyH.nil
                      go_simp
                      go_at_call 61
                      refine (C.out _ _ (hv.on hH2.hb)).mono ?_
                      rintro e w9 ⟨v3, rfl, hen, hd9⟩
                      go_wp2_with fail
                      refine hK.out _ _ (hH2.on hd9) (fun hH3 => ?_)
                      clear hK K
                      refine wpAnyH_take (i := 10) (v := v3) rfl (by kernel_rfl) (by kernel_rfl) (by kernel_rfl) (fun _ _ _ h => h) (yk_ext (by kernel_rfl) _ _ rfl (.tuple #[v3, .int .i64 0]) (by kernel_rfl) _ (fun _ _ => rfl)) hH3 ?_
                      refine wpAnyH_take (i := 11) (v := .int .i64 0) rfl (by kernel_rfl) (by kernel_rfl) (by kernel_rfl) (fun _ _ _ h => h) (yk_ext (by kernel_rfl) _ _ rfl (.tuple #[v3, .int .i64 0]) (by kernel_rfl) _ (fun _ _ => rfl)) hH3 ?_
                      refine wpAnyH_take (i := 12) (v := v3) rfl (by kernel_rfl) (by kernel_rfl) (by kernel_rfl) (fun _ _ _ h => h) (yk_assign (by kernel_rfl) _ rfl _ (by kernel_rfl)) hH3 ?_
                      refine wpAnyH_take (i := 13) (v := .int .i64 0) rfl (by kernel_rfl) (by kernel_rfl) (by kernel_rfl) (fun _ _ _ h => h) (yk_assign (by kernel_rfl) _ rfl _ (by kernel_rfl)) hH3 ?_
                      refine wpAnyH_done (by kernel_rfl) ?_ _
                      have hbf := hH3.hb
                      go_wp2_with fail
                      go_ret2
                      exact ⟨v3, rfl, hen, hbf⟩
                · have kz2 : Blk (Z1.drew.alloc (.cells #[.int .u64 0, .int .u64 0, .int .u64 0, .int .u64 0] 31)) (Z1.heap.size) 31 #[.int .u64 0, .int .u64 0, .int .u64 0, .int .u64 0] := blk1 Z1.drew _ _
                  have hzl2 : Z1.heap.size ≤ Z1.heap.size := hH0.hb.size
                  go_simp
                  refine hK.out _ _ (hH0.on (BW_alloc (BW_refl _) _)) (fun hH1 => ?_)
                  clear hK K
                  refine wpAnyH_ready (rs := [3]) (by kernel_rfl) (by simp) ?_
                  refine AllReadyH.cons rfl (fun K hK => ?_) AllReadyH.nil
                  go_simp
                  go_at_call 24
                  refine (r11bal_any _ E b d _ (hvZ.on hH1.hb) (by omega) (by omega) (by omega)).mono ?_
                  rintro e w3 ⟨rfl, hd3⟩
                  go_wp2_with fail
                  refine hK.out _ _ (hH1.on hd3) (fun hH2 => ?_)
                  clear hK K
                  replace kz2 := kz2.on hd3
                  refine wpAnyH_ready (rs := [5]) (by kernel_rfl) (by simp) ?_
                  refine AllReadyH.cons rfl (fun K hK => ?_) AllReadyH.nil
                  go_simp
                  go_at_call 22
                  refine (radd_any (ng E (keyB b d)) n (ng_lt _ _) hn _).mono ?_
                  rintro e w5 ⟨rfl, hd5⟩
                  go_wp2_with fail
                  refine hK.out _ _ (hH2.on hd5) (fun hH3 => ?_)
                  clear hK K
                  replace kz2 := kz2.on hd5
                  refine wpAnyH_take (i := 6) (v := .tuple #[.agg #[.int .u64 (limb (wN ((ng E (keyB b d)) + n)) 0), .int .u64 (limb (wN ((ng E (keyB b d)) + n)) 1), .int .u64 (limb (wN ((ng E (keyB b d)) + n)) 2), .int .u64 (limb (wN ((ng E (keyB b d)) + n)) 3)], .bool (wOk ((ng E (keyB b d)) + n))]) rfl (by kernel_rfl) (by kernel_rfl) (by kernel_rfl) (fun _ _ _ h => h) (yk_move (by kernel_rfl) _ rfl _ (by kernel_rfl)) hH3 ?_
                  refine wpAnyH_take (i := 7) (v := .agg #[.int .u64 (limb (wN ((ng E (keyB b d)) + n)) 0), .int .u64 (limb (wN ((ng E (keyB b d)) + n)) 1), .int .u64 (limb (wN ((ng E (keyB b d)) + n)) 2), .int .u64 (limb (wN ((ng E (keyB b d)) + n)) 3)]) rfl (by kernel_rfl) (by kernel_rfl) (by kernel_rfl) (fun _ _ _ h => h) (yk_ext (by kernel_rfl) _ _ rfl (.tuple #[.agg #[.int .u64 (limb (wN ((ng E (keyB b d)) + n)) 0), .int .u64 (limb (wN ((ng E (keyB b d)) + n)) 1), .int .u64 (limb (wN ((ng E (keyB b d)) + n)) 2), .int .u64 (limb (wN ((ng E (keyB b d)) + n)) 3)], .bool (wOk ((ng E (keyB b d)) + n))]) (by kernel_rfl) _ (fun _ _ => rfl)) hH3 ?_
                  refine wpAnyH_take (i := 8) (v := .bool (wOk ((ng E (keyB b d)) + n))) rfl (by kernel_rfl) (by kernel_rfl) (by kernel_rfl) (fun _ _ _ h => h) (yk_ext (by kernel_rfl) _ _ rfl (.tuple #[.agg #[.int .u64 (limb (wN ((ng E (keyB b d)) + n)) 0), .int .u64 (limb (wN ((ng E (keyB b d)) + n)) 1), .int .u64 (limb (wN ((ng E (keyB b d)) + n)) 2), .int .u64 (limb (wN ((ng E (keyB b d)) + n)) 3)], .bool (wOk ((ng E (keyB b d)) + n))]) (by kernel_rfl) _ (fun _ _ => rfl)) hH3 ?_
                  refine wpAnyH_ready (rs := [10]) (by kernel_rfl) (by simp) ?_
                  refine AllReadyH.cons rfl (fun K hK => ?_) AllReadyH.nil
                  rw [if_pos (by kernel_rfl)]
                  refine wp_store_mid _ _ _ rfl Z1.heap.size 0 [.int .u64 (limb (wN ((ng E (keyB b d)) + n)) 0), .int .u64 (limb (wN ((ng E (keyB b d)) + n)) 1), .int .u64 (limb (wN ((ng E (keyB b d)) + n)) 2), .int .u64 (limb (wN ((ng E (keyB b d)) + n)) 3)].toArray (by kernel_rfl) (by kernel_rfl) (kz2.there (Nat.le_refl 4)) szW (one4' (wN ((ng E (keyB b d)) + n))) ?_
                  simp only [Act.put, List.getElem_toArray, List.getElem_cons_zero, List.getElem_cons_succ]
                  refine hK.out _ _ (hH3.put (ne1 (by omega)) (by omega) _) (fun hH4 => ?_)
                  clear hK K
                  refine wpAnyH_take (i := 11) (v := .bool (wOk ((ng E (keyB b d)) + n))) rfl (by kernel_rfl) (by kernel_rfl) (by kernel_rfl) (fun _ _ _ h => h) (yk_assign (by kernel_rfl) _ rfl _ (by kernel_rfl)) hH4 ?_
                  refine wpAnyH_done (by kernel_rfl) ?_ _
                  have hB := hH4.hb
                  replace kz2 := setCells_all kz2 [.int .u64 (limb (wN ((ng E (keyB b d)) + n)) 0), .int .u64 (limb (wN ((ng E (keyB b d)) + n)) 1), .int .u64 (limb (wN ((ng E (keyB b d)) + n)) 2), .int .u64 (limb (wN ((ng E (keyB b d)) + n)) 3)] rfl
                  change Exit.then _ _ _ _ (w5.setCells (Z1.heap.size) 0 [.int .u64 (limb (wN ((ng E (keyB b d)) + n)) 0), .int .u64 (limb (wN ((ng E (keyB b d)) + n)) 1), .int .u64 (limb (wN ((ng E (keyB b d)) + n)) 2), .int .u64 (limb (wN ((ng E (keyB b d)) + n)) 3)])
                  generalize w5.setCells (Z1.heap.size) 0 [.int .u64 (limb (wN ((ng E (keyB b d)) + n)) 0), .int .u64 (limb (wN ((ng E (keyB b d)) + n)) 1), .int .u64 (limb (wN ((ng E (keyB b d)) + n)) 2), .int .u64 (limb (wN ((ng E (keyB b d)) + n)) 3)] = Z2 at *
                  clear hH0 hH1 hH2 hH3 hH4 hd3 hd5
                  replace kn := kn.on hB
                  replace kz1 := kz1.on hB
                  have hbZ := BW_on hb1 hB
                  cases h2 : wOk ((ng E (keyB b d)) + n)
                  · obtain ⟨rfl, rfl⟩ := Prod.mk.inj ((rmove_over hm h1 hab h2).symm.trans hR)
                    clear hR
                    go_wp2_with fail
                    go_ret2
                    exact ⟨_, rfl, Ents.nil _, hbZ⟩
                  · obtain ⟨rfl, rfl⟩ := Prod.mk.inj ((rmove_yes hm h1 hab h2).symm.trans hR)
                    clear hR
                    have zk := keyB_size a d
                    have zt := keyB_size b d
                    have C := Lib.hid (fun v w hv => rtwo_any v E (keyB a d) (keyB b d) ((ng E (keyB a d)) - n) (wN ((ng E (keyB b d)) + n)) w hv hs hl (by omega) (by omega) ((ng_lt _ _).sub) (W256.wN _))
                    go_upto_region 15 with (fail)
                    refine wp_region_held_drew (S := BxS w [(W.heap.size, 31, #[.int .u64 (limb ((ng E (keyB a d)) - n) 0), .int .u64 (limb ((ng E (keyB a d)) - n) 1), .int .u64 (limb ((ng E (keyB a d)) - n) 2), .int .u64 (limb ((ng E (keyB a d)) - n) 3)]), (Z1.heap.size, 31, #[.int .u64 (limb (wN ((ng E (keyB b d)) + n)) 0), .int .u64 (limb (wN ((ng E (keyB b d)) + n)) 1), .int .u64 (limb (wN ((ng E (keyB b d)) + n)) 2), .int .u64 (limb (wN ((ng E (keyB b d)) + n)) 3)])]) (by kernel_rfl) (((BxS.nil hbZ).cons kz2).cons kz1).drew (fun hH0 => ?_)
                    refine wpAnyH_take (i := 0) (v := .slice q E.length cap) rfl (by kernel_rfl) (by kernel_rfl) (by kernel_rfl) (fun _ _ _ h => h) (yk_move (by kernel_rfl) _ rfl _ (by kernel_rfl)) hH0 ?_
                    refine wpAnyH_take (i := 1) (v := .string a) rfl (by kernel_rfl) (by kernel_rfl) (by kernel_rfl) (fun _ _ _ h => h) (yk_move (by kernel_rfl) _ rfl _ (by kernel_rfl)) hH0 ?_
                    refine wpAnyH_take (i := 2) (v := .string d) rfl (by kernel_rfl) (by kernel_rfl) (by kernel_rfl) (fun _ _ _ h => h) (yk_move (by kernel_rfl) _ rfl _ (by kernel_rfl)) hH0 ?_
                    refine wpAnyH_take (i := 4) (v := .agg #[.int .u64 (limb ((ng E (keyB a d)) - n) 0), .int .u64 (limb ((ng E (keyB a d)) - n) 1), .int .u64 (limb ((ng E (keyB a d)) - n) 2), .int .u64 (limb ((ng E (keyB a d)) - n) 3)]) rfl (by kernel_rfl) (by kernel_rfl) (by kernel_rfl) (fun _ _ _ h => h) (yk_load (by kernel_rfl) _ _ rfl (.pointer (some ⟨W.heap.size, 0, none⟩)) (by kernel_rfl) _ (fun w' hw' => by have c0 := (hw'.bl _ (.head _)).cell 0; have c1 := (hw'.bl _ (.head _)).cell 1; have c2 := (hw'.bl _ (.head _)).cell 2; have c3 := (hw'.bl _ (.head _)).cell 3; go_simp)) hH0 ?_
                    refine wpAnyH_take (i := 5) (v := .string b) rfl (by kernel_rfl) (by kernel_rfl) (by kernel_rfl) (fun _ _ _ h => h) (yk_move (by kernel_rfl) _ rfl _ (by kernel_rfl)) hH0 ?_
                    refine wpAnyH_take (i := 6) (v := .string d) rfl (by kernel_rfl) (by kernel_rfl) (by kernel_rfl) (fun _ _ _ h => h) (yk_move (by kernel_rfl) _ rfl _ (by kernel_rfl)) hH0 ?_
                    refine wpAnyH_take (i := 8) (v := .agg #[.int .u64 (limb (wN ((ng E (keyB b d)) + n)) 0), .int .u64 (limb (wN ((ng E (keyB b d)) + n)) 1), .int .u64 (limb (wN ((ng E (keyB b d)) + n)) 2), .int .u64 (limb (wN ((ng E (keyB b d)) + n)) 3)]) rfl (by kernel_rfl) (by kernel_rfl) (by kernel_rfl) (fun _ _ _ h => h) (yk_load (by kernel_rfl) _ _ rfl (.pointer (some ⟨Z1.heap.size, 0, none⟩)) (by kernel_rfl) _ (fun w' hw' => by have c0 := (hw'.bl _ (.tail _ (.head _))).cell 0; have c1 := (hw'.bl _ (.tail _ (.head _))).cell 1; have c2 := (hw'.bl _ (.tail _ (.head _))).cell 2; have c3 := (hw'.bl _ (.tail _ (.head _))).cell 3; go_simp)) hH0 ?_
                    refine wpAnyH_ready (rs := [3]) (by kernel_rfl) (by simp) ?_
                    refine AllReadyH.cons rfl (fun K hK => ?_) AllReadyH.nil
                    go_simp
                    go_at_call 54
                    refine (r11key_any a d _ (by omega) (by omega)).mono ?_
                    rintro e w3 ⟨rfl, hd3⟩
                    go_wp2_with fail
                    refine hK.out _ _ (hH0.on hd3) (fun hH1 => ?_)
                    clear hK K
                    refine wpAnyH_ready (rs := [7]) (by kernel_rfl) (by simp) ?_
                    refine AllReadyH.cons rfl (fun K hK => ?_) AllReadyH.nil
                    go_simp
                    go_at_call 54
                    refine (r11key_any b d _ (by omega) (by omega)).mono ?_
                    rintro e w7 ⟨rfl, hd7⟩
                    go_wp2_with fail
                    refine hK.out _ _ (hH1.on hd7) (fun hH2 => ?_)
                    clear hK K
                    refine wpAnyH_ready (rs := [9]) (by kernel_rfl) (by simp) ?_
                    refine AllReadyH.cons rfl (fun K hK => ?_) AllReadyH.nil
                    go_simp
                    go_at_call 61
                    refine (C.out _ _ (hv.on hH2.hb)).mono ?_
                    rintro e w9 ⟨v3, rfl, hen, hd9⟩
                    go_wp2_with fail
                    refine hK.out _ _ (hH2.on hd9) (fun hH3 => ?_)
                    clear hK K
                    refine wpAnyH_take (i := 10) (v := v3) rfl (by kernel_rfl) (by kernel_rfl) (by kernel_rfl) (fun _ _ _ h => h) (yk_ext (by kernel_rfl) _ _ rfl (.tuple #[v3, .int .i64 0]) (by kernel_rfl) _ (fun _ _ => rfl)) hH3 ?_
                    refine wpAnyH_take (i := 11) (v := .int .i64 0) rfl (by kernel_rfl) (by kernel_rfl) (by kernel_rfl) (fun _ _ _ h => h) (yk_ext (by kernel_rfl) _ _ rfl (.tuple #[v3, .int .i64 0]) (by kernel_rfl) _ (fun _ _ => rfl)) hH3 ?_
                    refine wpAnyH_take (i := 12) (v := v3) rfl (by kernel_rfl) (by kernel_rfl) (by kernel_rfl) (fun _ _ _ h => h) (yk_assign (by kernel_rfl) _ rfl _ (by kernel_rfl)) hH3 ?_
                    refine wpAnyH_take (i := 13) (v := .int .i64 0) rfl (by kernel_rfl) (by kernel_rfl) (by kernel_rfl) (fun _ _ _ h => h) (yk_assign (by kernel_rfl) _ rfl _ (by kernel_rfl)) hH3 ?_
                    refine wpAnyH_done (by kernel_rfl) ?_ _
                    have hbf := hH3.hb
                    go_wp2_with fail
                    go_ret2
                    exact ⟨v3, rfl, hen, hbf⟩
end Go.Proofs.YtpcdgljcpacpiaaGreatDoor

/- Contracts of layer 11 (bank): Mint, Burn, Move. -/
import Derived.Test.YtpcdgljcpacpiaaGreatDoorBd
namespace Go.Proofs.YtpcdgljcpacpiaaGreatDoor
open Go.RowKit
attribute [local go_sem ↓] Go.wp_at_zero Go.wp_at_succ
theorem more_made (k : ByteArray) (n : Nat) (w : World) : Calls Tryz.prog 97 #[.string k, .agg #[.int .u64 (limb n 0), .int .u64 (limb n 1), .int .u64 (limb n 2), .int .u64 (limb n 3)]] w fun e w' => ∃ b, e = .returned (.func (.func 114) #[] #[.pointer (some ⟨b, 0, none⟩), .pointer (some ⟨b + 1, 0, none⟩)]) ∧ Blk w' b 9 #[.string k] ∧ Blk w' (b + 1) 31 #[.int .u64 (limb n 0), .int .u64 (limb n 1), .int .u64 (limb n 2), .int .u64 (limb n 3)] ∧ Below w.heap.size w w' := by
  refine (more_any k n w).mono ?_
  rintro e w' ⟨rfl, rfl⟩
  exact ⟨w.heap.size, rfl, (blk1 w 9 #[.string k]).alloc _, blk2 w (.cells #[.string k] 9) 31 #[.int .u64 (limb n 0), .int .u64 (limb n 1), .int .u64 (limb n 2), .int .u64 (limb n 3)], BW_alloc (BW_alloc (BW_refl w) _) _⟩
theorem less_made (k : ByteArray) (n : Nat) (w : World) : Calls Tryz.prog 67 #[.string k, .agg #[.int .u64 (limb n 0), .int .u64 (limb n 1), .int .u64 (limb n 2), .int .u64 (limb n 3)]] w fun e w' => ∃ b, e = .returned (.func (.func 91) #[] #[.pointer (some ⟨b, 0, none⟩), .pointer (some ⟨b + 1, 0, none⟩)]) ∧ Blk w' b 9 #[.string k] ∧ Blk w' (b + 1) 31 #[.int .u64 (limb n 0), .int .u64 (limb n 1), .int .u64 (limb n 2), .int .u64 (limb n 3)] ∧ Below w.heap.size w w' := by
  refine (less_any k n w).mono ?_
  rintro e w' ⟨rfl, rfl⟩
  exact ⟨w.heap.size, rfl, (blk1 w 9 #[.string k]).alloc _, blk2 w (.cells #[.string k] 9) 31 #[.int .u64 (limb n 0), .int .u64 (limb n 1), .int .u64 (limb n 2), .int .u64 (limb n 3)], BW_alloc (BW_alloc (BW_refl w) _) _⟩
theorem more_yes {E : List Ent} {k : ByteArray} {n : Nat} (h : wOk (ng E k + n) = true) : moreL E k n = (0, putL E k (wbB (ng E k + n))) := if_pos h
theorem more_no {E : List Ent} {k : ByteArray} {n : Nat} (h : wOk (ng E k + n) = false) : moreL E k n = (17, []) := if_neg (by rw [h]; exact Bool.false_ne_true)
theorem less_yes {E : List Ent} {k : ByteArray} {n : Nat} (h : n ≤ ng E k) : lessL E k n = (0, setL E k (ng E k - n)) := if_pos h
theorem less_no {E : List Ent} {k : ByteArray} {n : Nat} (h : ¬ n ≤ ng E k) : lessL E k n = (16, []) := if_neg h
theorem then_ok (L : List Ent) (f : List Ent → Int × List Ent) : thenL (0, L) f = f L := if_pos rfl
theorem then_no {x : Int} (hx : x ≠ 0) (L : List Ent) (f : List Ent → Int × List Ent) : thenL (x, L) f = (x, L) := if_neg hx
theorem mint_eq {E : List Ent} (hs : Srt E) {a d : ByteArray} {n : Nat} (hm : may1 a d n = true) (hok : wOk (ng E (keyB a d) + n) = true) : thenL (moreL E (totB d) n) (fun L => moreL L (keyB a d) n) = mintL E a d n := by
  have hne := key_ne_tot a d d
  unfold mintL
  rw [if_pos hm]
  cases h1 : wOk (ng E (totB d) + n)
  · rw [if_neg (fun h => by cases h.1), more_no h1, then_no (by decide)]
  · have e2 : ng (putL E (totB d) (wbB (ng E (totB d) + n))) (keyB a d) = ng E (keyB a d) := ng_put_ne hs _ _ hne
    rw [if_pos ⟨rfl, hok⟩, more_yes h1, then_ok, more_yes (by rw [e2]; exact hok), e2]
theorem mint_over {E : List Ent} {a d : ByteArray} {n : Nat} (hm : may1 a d n = true) (hok : wOk (ng E (keyB a d) + n) = false) : mintL E a d n = (17, []) := by
  unfold mintL
  rw [if_pos hm, if_neg (fun h => by rw [hok] at h; cases h.2)]
theorem burn_eq {E : List Ent} (hs : Srt E) {a d : ByteArray} {n : Nat} (hm : may1 a d n = true) : thenL (lessL E (totB d) n) (fun L => lessL L (keyB a d) n) = burnL E a d n := by
  have hne := key_ne_tot a d d
  unfold burnL
  rw [if_pos hm]
  by_cases h1 : n ≤ ng E (totB d)
  · have e2 : ng (setL E (totB d) (ng E (totB d) - n)) (keyB a d) = ng E (keyB a d) := ng_set_ne hs _ _ hne
    rw [less_yes h1, then_ok]
    by_cases h2 : n ≤ ng E (keyB a d)
    · rw [if_pos ⟨h1, h2⟩, less_yes (by rw [e2]; exact h2), e2]
    · rw [if_neg (fun h => h2 h.2), less_no (by rw [e2]; exact h2)]
  · rw [if_neg (fun h => h1 h.1), less_no h1, then_no (by decide)]
theorem may2_pos {a b d : ByteArray} {n : Nat} (h : may2 a b d n = true) : n ≠ 0 ∧ okName (bysN a) = true ∧ okName (bysN b) = true ∧ okDn (bysN d) = true := by
  unfold may2 at h
  simp at h
  exact ⟨h.2.2.2, h.1, h.2.1, h.2.2.1⟩
theorem may1_pos {a d : ByteArray} {n : Nat} (h : may1 a d n = true) : n ≠ 0 ∧ okName (bysN a) = true ∧ okDn (bysN d) = true := by
  unfold may1 at h
  simp at h
  exact ⟨h.2.2, h.1, h.2.1⟩
/-- What Move's two changes come to, and what it answers. -/
theorem move_eq {E : List Ent} (hs : Srt E) {a b d : ByteArray} {n : Nat} (hm : may2 a b d n = true) (hne : a ≠ b) : thenL (lessL E (keyB a d) n) (fun L => moreL L (keyB b d) n) = moveL E a b d n := by
  obtain ⟨h0, ha, hb, hd⟩ := may2_pos hm
  have za := okName_size ha
  have zb := okName_size hb
  have zd := okDn_size hd
  have hk : keyB b d ≠ keyB a d := fun h => hne (key_inj (by omega) (by omega) (by omega) (by omega) h).1.symm
  unfold moveL
  rw [if_pos hm]
  by_cases h1 : n ≤ ng E (keyB a d)
  · have e2 : ng (setL E (keyB a d) (ng E (keyB a d) - n)) (keyB b d) = ng E (keyB b d) := ng_set_ne hs _ _ hk
    rw [if_pos h1, if_neg hne, less_yes h1, then_ok]
    cases h2 : wOk (ng E (keyB b d) + n)
    · rw [if_neg Bool.false_ne_true, more_no (by rw [e2]; exact h2)]
    · rw [if_pos rfl, more_yes (by rw [e2]; exact h2), e2, set_pos (k := keyB b d) (by omega)]
  · rw [if_neg h1, less_no h1, then_no (by decide)]
theorem move_self {E : List Ent} (hs : Srt E) {a d : ByteArray} {n : Nat} (hm : may2 a a d n = true) :
    (n ≤ ng E (keyB a d) ∧ moveL E a a d n = (0, E) ∧ (thenL (lessL E (keyB a d) n) (fun L => moreL L (keyB a d) n)).1 = 0) ∨ (moveL E a a d n = (16, []) ∧ thenL (lessL E (keyB a d) n) (fun L => moreL L (keyB a d) n) = (16, [])) := by
  have hN := ng_lt E (keyB a d)
  unfold moveL
  rw [if_pos hm]
  by_cases h1 : n ≤ ng E (keyB a d)
  · have e2 : ng (setL E (keyB a d) (ng E (keyB a d) - n)) (keyB a d) + n = ng E (keyB a d) := by rw [ng_set hs _ hN.sub, Nat.sub_add_cancel h1]
    refine .inl ⟨h1, by rw [if_pos h1, if_pos rfl], ?_⟩
    rw [less_yes h1, then_ok, more_yes (by rw [e2]; exact decide_eq_true hN)]
  · exact .inr ⟨by rw [if_neg h1], by rw [less_no h1, then_no (by decide)]⟩
theorem ne2 {α : Type} {g0 g1 g : Nat} {a b : α} (h0 : g0 ≠ g) (h1 : g1 ≠ g) : ∀ x ∈ ([(g0, a), (g1, b)] : List (Nat × α)), x.1 ≠ g := by simpa using ⟨h0, h1⟩
set_option maxHeartbeats 8000000 in
set_option maxRecDepth 100000 in
theorem bmint_any (v : Value) (E : List Ent) (a d : ByteArray) (n : Nat) (w : World) (hv : Ents w v E) (hs : Srt E) (hl : E.length ≤ 1800) (hn : W256 n) :
    Calls Tryz.prog 74 #[.agg #[v], .string a, .string d, .agg #[.int .u64 (limb n 0), .int .u64 (limb n 1), .int .u64 (limb n 2), .int .u64 (limb n 3)]] w fun e w' => ∃ q cap, e = .returned (.tuple #[.agg #[.slice q (mintL E a d n).2.length cap], .int .i64 (mintL E a d n).1]) ∧ Ents w' (.slice q (mintL E a d n).2.length cap) (mintL E a d n).2 ∧ Below w.heap.size w w' := by
  obtain ⟨q, cap, rfl⟩ := hv.len
  rcases hR : mintL E a d n with ⟨x, L⟩
  have hb0 := BW_alloc (BW_alloc (BW_alloc (BW_refl w) (.cells #[.slice q E.length cap] 27)) (.cells #[.int .u64 (limb n 0), .int .u64 (limb n 1), .int .u64 (limb n 2), .int .u64 (limb n 3)] 31)) (.cells #[.slice none 0 0] 27)
  have kd := ((blk1 w 27 #[.slice q E.length cap]).alloc (.cells #[.int .u64 (limb n 0), .int .u64 (limb n 1), .int .u64 (limb n 2), .int .u64 (limb n 3)] 31)).alloc (.cells #[.slice none 0 0] 27)
  have kn := (blk2 w (.cells #[.slice q E.length cap] 27) 31 #[.int .u64 (limb n 0), .int .u64 (limb n 1), .int .u64 (limb n 2), .int .u64 (limb n 3)]).alloc (.cells #[.slice none 0 0] 27)
  have ko := blk3 w (.cells #[.slice q E.length cap] 27) (.cells #[.int .u64 (limb n 0), .int .u64 (limb n 1), .int .u64 (limb n 2), .int .u64 (limb n 3)] 31) 27 #[.slice none 0 0]
  go_enter Tryz.func74, Tryz.ntmps74
  go_upto_region 1 with (fail)
  change Code.wp _ _ _ _ (((w.alloc (.cells #[.slice q E.length cap] 27)).alloc (.cells #[.int .u64 (limb n 0), .int .u64 (limb n 1), .int .u64 (limb n 2), .int .u64 (limb n 3)] 31)).alloc (.cells #[.slice none 0 0] 27))
  generalize ((w.alloc (.cells #[.slice q E.length cap] 27)).alloc (.cells #[.int .u64 (limb n 0), .int .u64 (limb n 1), .int .u64 (limb n 2), .int .u64 (limb n 3)] 31)).alloc (.cells #[.slice none 0 0] 27) = W at *
  have cn := fun i => kn.cell i
  go_wp2_with fail
  have kr := blk1 W 9 #[.string a]
  refine (may_one a d n W.heap.size _ hn kr).mono ?_
  rintro e w1 ⟨rfl, hb1⟩
  have hBW := BW_on (BW_alloc (BW_refl W) (.cells #[.string a] 9)) hb1
  replace hb0 := BW_on hb0 hBW
  replace kd := kd.on hBW
  replace kn := kn.on hBW
  replace ko := ko.on hBW
  clear kr hb1 hBW cn
  cases hm : may1 a d n
  · obtain ⟨rfl, rfl⟩ := Prod.mk.inj ((show mintL E a d n = (1, []) from if_neg (by rw [hm]; exact Bool.false_ne_true)).symm.trans hR)
    clear hR hm
    have co := fun i => ko.cell i
    have fo := fun i => ko.free i
    have hbf := hb0.setCell (p := ⟨w.heap.size + 1 + 1, 0, none⟩) (by show w.heap.size ≤ w.heap.size + 1 + 1; omega) (.slice none 0 0)
    go_wp2_with fail
    have hcc := fun i => (ko.set_ 0 (.slice none 0 0)).cell i
    refine bodyPost_ret (v := .tuple #[.agg #[.slice none 0 0], .int .i64 1]) (by simp [results, Tryz.results74, go_sem, hcc]) rfl ⟨none, 0, rfl, Ents.nil _, hbf⟩
  · obtain ⟨_, hna, hnd⟩ := may1_pos hm
    have za := okName_size hna
    have zd := okDn_size hnd
    have hNb := ng_lt E (keyB a d)
    have hvw := hv.on hb0
    go_upto_region 3 with (fail)
    cases hok : wOk (ng E (keyB a d) + n)
    · obtain ⟨rfl, rfl⟩ := Prod.mk.inj ((mint_over hm hok).symm.trans hR)
      clear hR
      have hszd := kd.lt
      have hszn := kn.lt
      refine wp_region_held_drew (S := BxS w1 [(w.heap.size, 27, #[.slice q E.length cap]), (w.heap.size + 1, 31, #[.int .u64 (limb n 0), .int .u64 (limb n 1), .int .u64 (limb n 2), .int .u64 (limb n 3)])]) (by kernel_rfl) (((BxS.nil (BW_refl w1)).cons kn).cons kd).drew (fun hH0 => ?_)
      refine wpAnyH_take (i := 0) (v := .agg #[.slice q E.length cap]) rfl (by kernel_rfl) (by kernel_rfl) (by kernel_rfl) (fun _ _ _ h => h) (yk_load (by kernel_rfl) _ _ rfl (.pointer (some ⟨w.heap.size, 0, none⟩)) (by kernel_rfl) _ (fun w' hw' => by have c0 := (hw'.bl _ (.head _)).cell 0; go_simp)) hH0 ?_
      refine wpAnyH_take (i := 1) (v := .string a) rfl (by kernel_rfl) (by kernel_rfl) (by kernel_rfl) (fun _ _ _ h => h) (yk_move (by kernel_rfl) _ rfl _ (by kernel_rfl)) hH0 ?_
      refine wpAnyH_take (i := 2) (v := .string d) rfl (by kernel_rfl) (by kernel_rfl) (by kernel_rfl) (fun _ _ _ h => h) (yk_move (by kernel_rfl) _ rfl _ (by kernel_rfl)) hH0 ?_
      refine wpAnyH_take (i := 4) (v := .agg #[.int .u64 (limb n 0), .int .u64 (limb n 1), .int .u64 (limb n 2), .int .u64 (limb n 3)]) rfl (by kernel_rfl) (by kernel_rfl) (by kernel_rfl) (fun _ _ _ h => h) (yk_load (by kernel_rfl) _ _ rfl (.pointer (some ⟨(w.heap.size + 1), 0, none⟩)) (by kernel_rfl) _ (fun w' hw' => by have c0 := (hw'.bl _ (.tail _ (.head _))).cell 0; have c1 := (hw'.bl _ (.tail _ (.head _))).cell 1; have c2 := (hw'.bl _ (.tail _ (.head _))).cell 2; have c3 := (hw'.bl _ (.tail _ (.head _))).cell 3; go_simp)) hH0 ?_
      refine wpAnyH_ready (rs := [3, 9]) (by kernel_rfl) (by simp) ?_
      refine AllReadyH.cons rfl (fun K hK => ?_) (AllReadyH.cons rfl (fun K hK => ?_) (AllReadyH.nil))
      · go_simp
        go_at_call 100
        refine (bbal_any _ E a d _ (hvw.on hH0.hb) hs (by omega) (by omega) (by omega)).mono ?_
        rintro e w3 ⟨rfl, hd3⟩
        go_wp2_with fail
        refine hK.out _ _ (hH0.on hd3) (fun hH1 => ?_)
        clear hK K
        
        refine wpAnyH_ready (rs := [5, 9]) (by kernel_rfl) (by simp) ?_
        refine AllReadyH.cons rfl (fun K hK => ?_) (AllReadyH.cons rfl (fun K hK => ?_) (AllReadyH.nil))
        · go_simp
          go_at_call 99
          refine (add_any (ng E (keyB a d)) n hNb hn _).mono ?_
          rintro e w5 ⟨rfl, hd5⟩
          rw [hok, wN_no hok]
          go_wp2_with fail
          refine hK.out _ _ (hH1.on hd5) (fun hH2 => ?_)
          clear hK K
          
          refine wpAnyH_take (i := 6) (v := .tuple #[.agg #[.int .u64 0, .int .u64 0, .int .u64 0, .int .u64 0], .bool false]) rfl (by kernel_rfl) (by kernel_rfl) (by kernel_rfl) (fun _ _ _ h => h) (yk_move (by kernel_rfl) _ rfl _ (by kernel_rfl)) hH2 ?_
          refine wpAnyH_take (i := 7) (v := .agg #[.int .u64 0, .int .u64 0, .int .u64 0, .int .u64 0]) rfl (by kernel_rfl) (by kernel_rfl) (by kernel_rfl) (fun _ _ _ h => h) (yk_ext (by kernel_rfl) _ _ rfl (.tuple #[.agg #[.int .u64 0, .int .u64 0, .int .u64 0, .int .u64 0], .bool false]) (by kernel_rfl) _ (fun _ _ => rfl)) hH2 ?_
          refine wpAnyH_take (i := 8) (v := .bool false) rfl (by kernel_rfl) (by kernel_rfl) (by kernel_rfl) (fun _ _ _ h => h) (yk_ext (by kernel_rfl) _ _ rfl (.tuple #[.agg #[.int .u64 0, .int .u64 0, .int .u64 0, .int .u64 0], .bool false]) (by kernel_rfl) _ (fun _ _ => rfl)) hH2 ?_
          have kz : Blk (w5.alloc (.cells #[.int .u64 0, .int .u64 0, .int .u64 0, .int .u64 0] 31)) (w5.heap.size) 31 #[.int .u64 0, .int .u64 0, .int .u64 0, .int .u64 0] := blk1 w5 _ _
          have hzl : w1.heap.size ≤ w5.heap.size := hH2.hb.size
          refine wpAnyH_ready (rs := [9]) (by kernel_rfl) (by simp) ?_
          refine AllReadyH.cons rfl (fun K hK => ?_) AllReadyH.nil
          go_simp
          refine hK.out _ _ (hH2.on (BW_alloc (BW_refl _) _)) (fun hH3 => ?_)
          clear hK K
          refine wpAnyH_ready (rs := [10]) (by kernel_rfl) (by simp) ?_
          refine AllReadyH.cons rfl (fun K hK => ?_) AllReadyH.nil
          rw [if_pos (by kernel_rfl)]
          refine wp_store_mid _ _ _ rfl w5.heap.size 0 [.int .u64 0, .int .u64 0, .int .u64 0, .int .u64 0].toArray (by kernel_rfl) (by kernel_rfl) (kz.there (Nat.le_refl 4)) szW (one4 _ _ _ _) ?_
          simp only [Act.put, List.getElem_toArray, List.getElem_cons_zero, List.getElem_cons_succ]
          refine hK.out _ _ (hH3.put (ne2 (by omega) (by omega)) (by omega) _) (fun hH4 => ?_)
          clear hK K
          refine wpAnyH_take (i := 11) (v := .bool false) rfl (by kernel_rfl) (by kernel_rfl) (by kernel_rfl) (fun _ _ _ h => h) (yk_assign (by kernel_rfl) _ rfl _ (by kernel_rfl)) hH4 ?_
          refine wpAnyH_done (by kernel_rfl) ?_ _
          have hB := hH4.hb
          change Exit.then _ _ _ _ ((w5.alloc (.cells #[.int .u64 0, .int .u64 0, .int .u64 0, .int .u64 0] 31)).setCells (w5.heap.size) 0 [.int .u64 0, .int .u64 0, .int .u64 0, .int .u64 0])
          generalize (w5.alloc (.cells #[.int .u64 0, .int .u64 0, .int .u64 0, .int .u64 0] 31)).setCells (w5.heap.size) 0 [.int .u64 0, .int .u64 0, .int .u64 0, .int .u64 0] = Z at *
          clear hH0 hH1 hH2 hH3 hH4 hd3 hd5 kz
          replace kd := kd.on hB
          replace kn := kn.on hB
          replace ko := ko.on hB
          replace hb0 := BW_on hb0 hB
          have co := fun i => ko.cell i
          have fo := fun i => ko.free i
          have hbf := hb0.setCell (p := ⟨w.heap.size + 1 + 1, 0, none⟩) (by show w.heap.size ≤ w.heap.size + 1 + 1; omega) (.slice none 0 0)
          go_wp2_with fail
          have hcc := fun i => (ko.set_ 0 (.slice none 0 0)).cell i
          refine bodyPost_ret (v := .tuple #[.agg #[.slice none 0 0], .int .i64 17]) (by simp [results, Tryz.results74, go_sem, hcc]) rfl ⟨none, 0, rfl, Ents.nil _, hbf⟩
        · have kz : Blk (w3.alloc (.cells #[.int .u64 0, .int .u64 0, .int .u64 0, .int .u64 0] 31)) (w3.heap.size) 31 #[.int .u64 0, .int .u64 0, .int .u64 0, .int .u64 0] := blk1 w3 _ _
          have hzl : w1.heap.size ≤ w3.heap.size := hH1.hb.size
          go_simp
          refine hK.out _ _ (hH1.on (BW_alloc (BW_refl _) _)) (fun hH2 => ?_)
          clear hK K
          refine wpAnyH_ready (rs := [5]) (by kernel_rfl) (by simp) ?_
          refine AllReadyH.cons rfl (fun K hK => ?_) AllReadyH.nil
          go_simp
          go_at_call 99
          refine (add_any (ng E (keyB a d)) n hNb hn _).mono ?_
          rintro e w5 ⟨rfl, hd5⟩
          rw [hok, wN_no hok]
          go_wp2_with fail
          refine hK.out _ _ (hH2.on hd5) (fun hH3 => ?_)
          clear hK K
          replace kz := kz.on hd5
          refine wpAnyH_take (i := 6) (v := .tuple #[.agg #[.int .u64 0, .int .u64 0, .int .u64 0, .int .u64 0], .bool false]) rfl (by kernel_rfl) (by kernel_rfl) (by kernel_rfl) (fun _ _ _ h => h) (yk_move (by kernel_rfl) _ rfl _ (by kernel_rfl)) hH3 ?_
          refine wpAnyH_take (i := 7) (v := .agg #[.int .u64 0, .int .u64 0, .int .u64 0, .int .u64 0]) rfl (by kernel_rfl) (by kernel_rfl) (by kernel_rfl) (fun _ _ _ h => h) (yk_ext (by kernel_rfl) _ _ rfl (.tuple #[.agg #[.int .u64 0, .int .u64 0, .int .u64 0, .int .u64 0], .bool false]) (by kernel_rfl) _ (fun _ _ => rfl)) hH3 ?_
          refine wpAnyH_take (i := 8) (v := .bool false) rfl (by kernel_rfl) (by kernel_rfl) (by kernel_rfl) (fun _ _ _ h => h) (yk_ext (by kernel_rfl) _ _ rfl (.tuple #[.agg #[.int .u64 0, .int .u64 0, .int .u64 0, .int .u64 0], .bool false]) (by kernel_rfl) _ (fun _ _ => rfl)) hH3 ?_
          refine wpAnyH_ready (rs := [10]) (by kernel_rfl) (by simp) ?_
          refine AllReadyH.cons rfl (fun K hK => ?_) AllReadyH.nil
          rw [if_pos (by kernel_rfl)]
          refine wp_store_mid _ _ _ rfl w3.heap.size 0 [.int .u64 0, .int .u64 0, .int .u64 0, .int .u64 0].toArray (by kernel_rfl) (by kernel_rfl) (kz.there (Nat.le_refl 4)) szW (one4 _ _ _ _) ?_
          simp only [Act.put, List.getElem_toArray, List.getElem_cons_zero, List.getElem_cons_succ]
          refine hK.out _ _ (hH3.put (ne2 (by omega) (by omega)) (by omega) _) (fun hH4 => ?_)
          clear hK K
          refine wpAnyH_take (i := 11) (v := .bool false) rfl (by kernel_rfl) (by kernel_rfl) (by kernel_rfl) (fun _ _ _ h => h) (yk_assign (by kernel_rfl) _ rfl _ (by kernel_rfl)) hH4 ?_
          refine wpAnyH_done (by kernel_rfl) ?_ _
          have hB := hH4.hb
          change Exit.then _ _ _ _ (w5.setCells (w3.heap.size) 0 [.int .u64 0, .int .u64 0, .int .u64 0, .int .u64 0])
          generalize w5.setCells (w3.heap.size) 0 [.int .u64 0, .int .u64 0, .int .u64 0, .int .u64 0] = Z at *
          clear hH0 hH1 hH2 hH3 hH4 hd3 hd5 kz
          replace kd := kd.on hB
          replace kn := kn.on hB
          replace ko := ko.on hB
          replace hb0 := BW_on hb0 hB
          have co := fun i => ko.cell i
          have fo := fun i => ko.free i
          have hbf := hb0.setCell (p := ⟨w.heap.size + 1 + 1, 0, none⟩) (by show w.heap.size ≤ w.heap.size + 1 + 1; omega) (.slice none 0 0)
          go_wp2_with fail
          have hcc := fun i => (ko.set_ 0 (.slice none 0 0)).cell i
          refine bodyPost_ret (v := .tuple #[.agg #[.slice none 0 0], .int .i64 17]) (by simp [results, Tryz.results74, go_sem, hcc]) rfl ⟨none, 0, rfl, Ents.nil _, hbf⟩
      · have kz : Blk (w1.drew.alloc (.cells #[.int .u64 0, .int .u64 0, .int .u64 0, .int .u64 0] 31)) (w1.heap.size) 31 #[.int .u64 0, .int .u64 0, .int .u64 0, .int .u64 0] := blk1 w1.drew _ _
        have hzl : w1.heap.size ≤ w1.heap.size := hH0.hb.size
        go_simp
        refine hK.out _ _ (hH0.on (BW_alloc (BW_refl _) _)) (fun hH1 => ?_)
        clear hK K
        refine wpAnyH_ready (rs := [3]) (by kernel_rfl) (by simp) ?_
        refine AllReadyH.cons rfl (fun K hK => ?_) AllReadyH.nil
        go_simp
        go_at_call 100
        refine (bbal_any _ E a d _ (hvw.on hH1.hb) hs (by omega) (by omega) (by omega)).mono ?_
        rintro e w3 ⟨rfl, hd3⟩
        go_wp2_with fail
        refine hK.out _ _ (hH1.on hd3) (fun hH2 => ?_)
        clear hK K
        replace kz := kz.on hd3
        refine wpAnyH_ready (rs := [5]) (by kernel_rfl) (by simp) ?_
        refine AllReadyH.cons rfl (fun K hK => ?_) AllReadyH.nil
        go_simp
        go_at_call 99
        refine (add_any (ng E (keyB a d)) n hNb hn _).mono ?_
        rintro e w5 ⟨rfl, hd5⟩
        rw [hok, wN_no hok]
        go_wp2_with fail
        refine hK.out _ _ (hH2.on hd5) (fun hH3 => ?_)
        clear hK K
        replace kz := kz.on hd5
        refine wpAnyH_take (i := 6) (v := .tuple #[.agg #[.int .u64 0, .int .u64 0, .int .u64 0, .int .u64 0], .bool false]) rfl (by kernel_rfl) (by kernel_rfl) (by kernel_rfl) (fun _ _ _ h => h) (yk_move (by kernel_rfl) _ rfl _ (by kernel_rfl)) hH3 ?_
        refine wpAnyH_take (i := 7) (v := .agg #[.int .u64 0, .int .u64 0, .int .u64 0, .int .u64 0]) rfl (by kernel_rfl) (by kernel_rfl) (by kernel_rfl) (fun _ _ _ h => h) (yk_ext (by kernel_rfl) _ _ rfl (.tuple #[.agg #[.int .u64 0, .int .u64 0, .int .u64 0, .int .u64 0], .bool false]) (by kernel_rfl) _ (fun _ _ => rfl)) hH3 ?_
        refine wpAnyH_take (i := 8) (v := .bool false) rfl (by kernel_rfl) (by kernel_rfl) (by kernel_rfl) (fun _ _ _ h => h) (yk_ext (by kernel_rfl) _ _ rfl (.tuple #[.agg #[.int .u64 0, .int .u64 0, .int .u64 0, .int .u64 0], .bool false]) (by kernel_rfl) _ (fun _ _ => rfl)) hH3 ?_
        refine wpAnyH_ready (rs := [10]) (by kernel_rfl) (by simp) ?_
        refine AllReadyH.cons rfl (fun K hK => ?_) AllReadyH.nil
        rw [if_pos (by kernel_rfl)]
        refine wp_store_mid _ _ _ rfl w1.heap.size 0 [.int .u64 0, .int .u64 0, .int .u64 0, .int .u64 0].toArray (by kernel_rfl) (by kernel_rfl) (kz.there (Nat.le_refl 4)) szW (one4 _ _ _ _) ?_
        simp only [Act.put, List.getElem_toArray, List.getElem_cons_zero, List.getElem_cons_succ]
        refine hK.out _ _ (hH3.put (ne2 (by omega) (by omega)) (by omega) _) (fun hH4 => ?_)
        clear hK K
        refine wpAnyH_take (i := 11) (v := .bool false) rfl (by kernel_rfl) (by kernel_rfl) (by kernel_rfl) (fun _ _ _ h => h) (yk_assign (by kernel_rfl) _ rfl _ (by kernel_rfl)) hH4 ?_
        refine wpAnyH_done (by kernel_rfl) ?_ _
        have hB := hH4.hb
        change Exit.then _ _ _ _ (w5.setCells (w1.heap.size) 0 [.int .u64 0, .int .u64 0, .int .u64 0, .int .u64 0])
        generalize w5.setCells (w1.heap.size) 0 [.int .u64 0, .int .u64 0, .int .u64 0, .int .u64 0] = Z at *
        clear hH0 hH1 hH2 hH3 hH4 hd3 hd5 kz
        replace kd := kd.on hB
        replace kn := kn.on hB
        replace ko := ko.on hB
        replace hb0 := BW_on hb0 hB
        have co := fun i => ko.cell i
        have fo := fun i => ko.free i
        have hbf := hb0.setCell (p := ⟨w.heap.size + 1 + 1, 0, none⟩) (by show w.heap.size ≤ w.heap.size + 1 + 1; omega) (.slice none 0 0)
        go_wp2_with fail
        have hcc := fun i => (ko.set_ 0 (.slice none 0 0)).cell i
        refine bodyPost_ret (v := .tuple #[.agg #[.slice none 0 0], .int .i64 17]) (by simp [results, Tryz.results74, go_sem, hcc]) rfl ⟨none, 0, rfl, Ents.nil _, hbf⟩
    · have hszd := kd.lt
      have hszn := kn.lt
      refine wp_region_held_drew (S := BxS w1 [(w.heap.size, 27, #[.slice q E.length cap]), (w.heap.size + 1, 31, #[.int .u64 (limb n 0), .int .u64 (limb n 1), .int .u64 (limb n 2), .int .u64 (limb n 3)])]) (by kernel_rfl) (((BxS.nil (BW_refl w1)).cons kn).cons kd).drew (fun hH0 => ?_)
      refine wpAnyH_take (i := 0) (v := .agg #[.slice q E.length cap]) rfl (by kernel_rfl) (by kernel_rfl) (by kernel_rfl) (fun _ _ _ h => h) (yk_load (by kernel_rfl) _ _ rfl (.pointer (some ⟨w.heap.size, 0, none⟩)) (by kernel_rfl) _ (fun w' hw' => by have c0 := (hw'.bl _ (.head _)).cell 0; go_simp)) hH0 ?_
      refine wpAnyH_take (i := 1) (v := .string a) rfl (by kernel_rfl) (by kernel_rfl) (by kernel_rfl) (fun _ _ _ h => h) (yk_move (by kernel_rfl) _ rfl _ (by kernel_rfl)) hH0 ?_
      refine wpAnyH_take (i := 2) (v := .string d) rfl (by kernel_rfl) (by kernel_rfl) (by kernel_rfl) (fun _ _ _ h => h) (yk_move (by kernel_rfl) _ rfl _ (by kernel_rfl)) hH0 ?_
      refine wpAnyH_take (i := 4) (v := .agg #[.int .u64 (limb n 0), .int .u64 (limb n 1), .int .u64 (limb n 2), .int .u64 (limb n 3)]) rfl (by kernel_rfl) (by kernel_rfl) (by kernel_rfl) (fun _ _ _ h => h) (yk_load (by kernel_rfl) _ _ rfl (.pointer (some ⟨(w.heap.size + 1), 0, none⟩)) (by kernel_rfl) _ (fun w' hw' => by have c0 := (hw'.bl _ (.tail _ (.head _))).cell 0; have c1 := (hw'.bl _ (.tail _ (.head _))).cell 1; have c2 := (hw'.bl _ (.tail _ (.head _))).cell 2; have c3 := (hw'.bl _ (.tail _ (.head _))).cell 3; go_simp)) hH0 ?_
      refine wpAnyH_ready (rs := [3, 9]) (by kernel_rfl) (by simp) ?_
      refine AllReadyH.cons rfl (fun K hK => ?_) (AllReadyH.cons rfl (fun K hK => ?_) (AllReadyH.nil))
      · go_simp
        go_at_call 100
        refine (bbal_any _ E a d _ (hvw.on hH0.hb) hs (by omega) (by omega) (by omega)).mono ?_
        rintro e w3 ⟨rfl, hd3⟩
        go_wp2_with fail
        refine hK.out _ _ (hH0.on hd3) (fun hH1 => ?_)
        clear hK K
        
        refine wpAnyH_ready (rs := [5, 9]) (by kernel_rfl) (by simp) ?_
        refine AllReadyH.cons rfl (fun K hK => ?_) (AllReadyH.cons rfl (fun K hK => ?_) (AllReadyH.nil))
        · go_simp
          go_at_call 99
          refine (add_any (ng E (keyB a d)) n hNb hn _).mono ?_
          rintro e w5 ⟨rfl, hd5⟩
          rw [hok, (wN_of0 hok).1]
          go_wp2_with fail
          refine hK.out _ _ (hH1.on hd5) (fun hH2 => ?_)
          clear hK K
          
          refine wpAnyH_take (i := 6) (v := .tuple #[.agg #[.int .u64 (limb (ng E (keyB a d) + n) 0), .int .u64 (limb (ng E (keyB a d) + n) 1), .int .u64 (limb (ng E (keyB a d) + n) 2), .int .u64 (limb (ng E (keyB a d) + n) 3)], .bool true]) rfl (by kernel_rfl) (by kernel_rfl) (by kernel_rfl) (fun _ _ _ h => h) (yk_move (by kernel_rfl) _ rfl _ (by kernel_rfl)) hH2 ?_
          refine wpAnyH_take (i := 7) (v := .agg #[.int .u64 (limb (ng E (keyB a d) + n) 0), .int .u64 (limb (ng E (keyB a d) + n) 1), .int .u64 (limb (ng E (keyB a d) + n) 2), .int .u64 (limb (ng E (keyB a d) + n) 3)]) rfl (by kernel_rfl) (by kernel_rfl) (by kernel_rfl) (fun _ _ _ h => h) (yk_ext (by kernel_rfl) _ _ rfl (.tuple #[.agg #[.int .u64 (limb (ng E (keyB a d) + n) 0), .int .u64 (limb (ng E (keyB a d) + n) 1), .int .u64 (limb (ng E (keyB a d) + n) 2), .int .u64 (limb (ng E (keyB a d) + n) 3)], .bool true]) (by kernel_rfl) _ (fun _ _ => rfl)) hH2 ?_
          refine wpAnyH_take (i := 8) (v := .bool true) rfl (by kernel_rfl) (by kernel_rfl) (by kernel_rfl) (fun _ _ _ h => h) (yk_ext (by kernel_rfl) _ _ rfl (.tuple #[.agg #[.int .u64 (limb (ng E (keyB a d) + n) 0), .int .u64 (limb (ng E (keyB a d) + n) 1), .int .u64 (limb (ng E (keyB a d) + n) 2), .int .u64 (limb (ng E (keyB a d) + n) 3)], .bool true]) (by kernel_rfl) _ (fun _ _ => rfl)) hH2 ?_
          have kz : Blk (w5.alloc (.cells #[.int .u64 0, .int .u64 0, .int .u64 0, .int .u64 0] 31)) (w5.heap.size) 31 #[.int .u64 0, .int .u64 0, .int .u64 0, .int .u64 0] := blk1 w5 _ _
          have hzl : w1.heap.size ≤ w5.heap.size := hH2.hb.size
          refine wpAnyH_ready (rs := [9]) (by kernel_rfl) (by simp) ?_
          refine AllReadyH.cons rfl (fun K hK => ?_) AllReadyH.nil
          go_simp
          refine hK.out _ _ (hH2.on (BW_alloc (BW_refl _) _)) (fun hH3 => ?_)
          clear hK K
          refine wpAnyH_ready (rs := [10]) (by kernel_rfl) (by simp) ?_
          refine AllReadyH.cons rfl (fun K hK => ?_) AllReadyH.nil
          rw [if_pos (by kernel_rfl)]
          refine wp_store_mid _ _ _ rfl w5.heap.size 0 [.int .u64 (limb (ng E (keyB a d) + n) 0), .int .u64 (limb (ng E (keyB a d) + n) 1), .int .u64 (limb (ng E (keyB a d) + n) 2), .int .u64 (limb (ng E (keyB a d) + n) 3)].toArray (by kernel_rfl) (by kernel_rfl) (kz.there (Nat.le_refl 4)) szW (one4 _ _ _ _) ?_
          simp only [Act.put, List.getElem_toArray, List.getElem_cons_zero, List.getElem_cons_succ]
          refine hK.out _ _ (hH3.put (ne2 (by omega) (by omega)) (by omega) _) (fun hH4 => ?_)
          clear hK K
          refine wpAnyH_take (i := 11) (v := .bool true) rfl (by kernel_rfl) (by kernel_rfl) (by kernel_rfl) (fun _ _ _ h => h) (yk_assign (by kernel_rfl) _ rfl _ (by kernel_rfl)) hH4 ?_
          refine wpAnyH_done (by kernel_rfl) ?_ _
          have hB := hH4.hb
          change Exit.then _ _ _ _ ((w5.alloc (.cells #[.int .u64 0, .int .u64 0, .int .u64 0, .int .u64 0] 31)).setCells (w5.heap.size) 0 [.int .u64 (limb (ng E (keyB a d) + n) 0), .int .u64 (limb (ng E (keyB a d) + n) 1), .int .u64 (limb (ng E (keyB a d) + n) 2), .int .u64 (limb (ng E (keyB a d) + n) 3)])
          generalize (w5.alloc (.cells #[.int .u64 0, .int .u64 0, .int .u64 0, .int .u64 0] 31)).setCells (w5.heap.size) 0 [.int .u64 (limb (ng E (keyB a d) + n) 0), .int .u64 (limb (ng E (keyB a d) + n) 1), .int .u64 (limb (ng E (keyB a d) + n) 2), .int .u64 (limb (ng E (keyB a d) + n) 3)] = Z at *
          clear hH0 hH1 hH2 hH3 hH4 hd3 hd5 kz
          replace kd := kd.on hB
          replace kn := kn.on hB
          replace ko := ko.on hB
          replace hb0 := BW_on hb0 hB
          go_upto_region 6 with (fail)
          have kof := ko.drew
          have zk := keyB_size a d
          have zt := totB_size d
          have C := fun g b1 b2 w hv hr hp1 hq1 hp2 hq2 => does_mm (.slice q E.length cap) E (totB d) (keyB a d) n n b1 b2 g w hv hs hl (by omega) (by omega) hn hn hr hp1 hq1 hp2 hq2
          rw [mint_eq hs hm hok, hR] at C
          have C := Lib.hid C
          refine wp_region_held_drew (S := BxS w [(w.heap.size, 27, #[.slice q E.length cap]), (w.heap.size + 1, 31, #[.int .u64 (limb n 0), .int .u64 (limb n 1), .int .u64 (limb n 2), .int .u64 (limb n 3)])]) (by kernel_rfl) (((BxS.nil hb0).cons kn).cons kd).drew (fun hH0 => ?_)
          refine wpAnyH_take (i := 0) (v := .agg #[.slice q E.length cap]) rfl (by kernel_rfl) (by kernel_rfl) (by kernel_rfl) (fun _ _ _ h => h) (yk_load (by kernel_rfl) _ _ rfl (.pointer (some ⟨w.heap.size, 0, none⟩)) (by kernel_rfl) _ (fun w' hw' => by have c0 := (hw'.bl _ (.head _)).cell 0; go_simp)) hH0 ?_
          refine wpAnyH_take (i := 1) (v := .string d) rfl (by kernel_rfl) (by kernel_rfl) (by kernel_rfl) (fun _ _ _ h => h) (yk_move (by kernel_rfl) _ rfl _ (by kernel_rfl)) hH0 ?_
          refine wpAnyH_take (i := 3) (v := .agg #[.int .u64 (limb n 0), .int .u64 (limb n 1), .int .u64 (limb n 2), .int .u64 (limb n 3)]) rfl (by kernel_rfl) (by kernel_rfl) (by kernel_rfl) (fun _ _ _ h => h) (yk_load (by kernel_rfl) _ _ rfl (.pointer (some ⟨(w.heap.size + 1), 0, none⟩)) (by kernel_rfl) _ (fun w' hw' => by have c0 := (hw'.bl _ (.tail _ (.head _))).cell 0; have c1 := (hw'.bl _ (.tail _ (.head _))).cell 1; have c2 := (hw'.bl _ (.tail _ (.head _))).cell 2; have c3 := (hw'.bl _ (.tail _ (.head _))).cell 3; go_simp)) hH0 ?_
          refine wpAnyH_take (i := 5) (v := .string a) rfl (by kernel_rfl) (by kernel_rfl) (by kernel_rfl) (fun _ _ _ h => h) (yk_move (by kernel_rfl) _ rfl _ (by kernel_rfl)) hH0 ?_
          refine wpAnyH_take (i := 6) (v := .string d) rfl (by kernel_rfl) (by kernel_rfl) (by kernel_rfl) (fun _ _ _ h => h) (yk_move (by kernel_rfl) _ rfl _ (by kernel_rfl)) hH0 ?_
          refine wpAnyH_take (i := 8) (v := .agg #[.int .u64 (limb n 0), .int .u64 (limb n 1), .int .u64 (limb n 2), .int .u64 (limb n 3)]) rfl (by kernel_rfl) (by kernel_rfl) (by kernel_rfl) (fun _ _ _ h => h) (yk_load (by kernel_rfl) _ _ rfl (.pointer (some ⟨(w.heap.size + 1), 0, none⟩)) (by kernel_rfl) _ (fun w' hw' => by have c0 := (hw'.bl _ (.tail _ (.head _))).cell 0; have c1 := (hw'.bl _ (.tail _ (.head _))).cell 1; have c2 := (hw'.bl _ (.tail _ (.head _))).cell 2; have c3 := (hw'.bl _ (.tail _ (.head _))).cell 3; go_simp)) hH0 ?_
          refine wpAnyH_ready (rs := [2]) (by kernel_rfl) (by simp) ?_
          refine AllReadyH.cons rfl (fun K hK => ?_) AllReadyH.nil
          go_simp
          go_at_call 68
          refine (btot_any d _ (by omega)).mono ?_
          rintro e w2 ⟨rfl, hd2⟩
          go_wp2_with fail
          refine hK.out _ _ (hH0.on hd2) (fun hH1 => ?_)
          clear hK K
          replace kof := kof.on hd2
          refine wpAnyH_ready (rs := [4]) (by kernel_rfl) (by simp) ?_
          refine AllReadyH.cons rfl (fun K hK => ?_) AllReadyH.nil
          go_simp
          go_at_call 97
          refine (more_made (totB d) n _).mono ?_
          rintro e w4 ⟨b1, rfl, hp1, hq1, hd4⟩
          go_wp2_with fail
          refine hK.out _ _ (hH1.on hd4) (fun hH2 => ?_)
          clear hK K
          replace kof := kof.on hd4
          refine wpAnyH_ready (rs := [7]) (by kernel_rfl) (by simp) ?_
          refine AllReadyH.cons rfl (fun K hK => ?_) AllReadyH.nil
          go_simp
          go_at_call 69
          refine (bkey_any a d _ (by omega) (by omega)).mono ?_
          rintro e w7 ⟨rfl, hd7⟩
          go_wp2_with fail
          refine hK.out _ _ (hH2.on hd7) (fun hH3 => ?_)
          clear hK K
          replace kof := kof.on hd7
          replace hp1 := hp1.on hd7
          replace hq1 := hq1.on hd7
          refine wpAnyH_ready (rs := [9]) (by kernel_rfl) (by simp) ?_
          refine AllReadyH.cons rfl (fun K hK => ?_) AllReadyH.nil
          go_simp
          go_at_call 97
          refine (more_made (keyB a d) n _).mono ?_
          rintro e w9 ⟨b2, rfl, hp2, hq2, hd9⟩
          go_wp2_with fail
          refine hK.out _ _ (hH3.on hd9) (fun hH4 => ?_)
          clear hK K
          replace kof := kof.on hd9
          replace hp1 := hp1.on hd9
          replace hq1 := hq1.on hd9
          have hrow : Blk (w9.alloc (.cells #[.func (.func 114) #[] #[.pointer (some ⟨b1, 0, none⟩), .pointer (some ⟨b1 + 1, 0, none⟩)], .func (.func 114) #[] #[.pointer (some ⟨b2, 0, none⟩), .pointer (some ⟨b2 + 1, 0, none⟩)]] 88)) (w9.heap.size) 88 #[.func (.func 114) #[] #[.pointer (some ⟨b1, 0, none⟩), .pointer (some ⟨b1 + 1, 0, none⟩)], .func (.func 114) #[] #[.pointer (some ⟨b2, 0, none⟩), .pointer (some ⟨b2 + 1, 0, none⟩)]] := blk1 _ _ _
          refine wpAnyH_ready (rs := [10]) (by kernel_rfl) (by simp) ?_
          refine AllReadyH.cons rfl (fun K hK => ?_) AllReadyH.nil
          go_simp
          refine hK.out _ _ (hH4.on (BW_alloc (BW_refl _) _)) (fun hH5 => ?_)
          clear hK K
          replace kof := kof.on (BW_alloc (BW_refl _) (.cells #[.func (.func 114) #[] #[.pointer (some ⟨b1, 0, none⟩), .pointer (some ⟨b1 + 1, 0, none⟩)], .func (.func 114) #[] #[.pointer (some ⟨b2, 0, none⟩), .pointer (some ⟨b2 + 1, 0, none⟩)]] 88))
          replace hp1 := hp1.on (BW_alloc (BW_refl _) (.cells #[.func (.func 114) #[] #[.pointer (some ⟨b1, 0, none⟩), .pointer (some ⟨b1 + 1, 0, none⟩)], .func (.func 114) #[] #[.pointer (some ⟨b2, 0, none⟩), .pointer (some ⟨b2 + 1, 0, none⟩)]] 88))
          replace hq1 := hq1.on (BW_alloc (BW_refl _) (.cells #[.func (.func 114) #[] #[.pointer (some ⟨b1, 0, none⟩), .pointer (some ⟨b1 + 1, 0, none⟩)], .func (.func 114) #[] #[.pointer (some ⟨b2, 0, none⟩), .pointer (some ⟨b2 + 1, 0, none⟩)]] 88))
          replace hp2 := hp2.on (BW_alloc (BW_refl _) (.cells #[.func (.func 114) #[] #[.pointer (some ⟨b1, 0, none⟩), .pointer (some ⟨b1 + 1, 0, none⟩)], .func (.func 114) #[] #[.pointer (some ⟨b2, 0, none⟩), .pointer (some ⟨b2 + 1, 0, none⟩)]] 88))
          replace hq2 := hq2.on (BW_alloc (BW_refl _) (.cells #[.func (.func 114) #[] #[.pointer (some ⟨b1, 0, none⟩), .pointer (some ⟨b1 + 1, 0, none⟩)], .func (.func 114) #[] #[.pointer (some ⟨b2, 0, none⟩), .pointer (some ⟨b2 + 1, 0, none⟩)]] 88))
          refine wpAnyH_ready (rs := [11]) (by kernel_rfl) (by simp) ?_
          refine AllReadyH.cons rfl (fun K hK => ?_) AllReadyH.nil
          go_simp
          go_at_call 66
          refine (C.out _ _ _ _ (hv.on hH5.hb) hrow hp1 hq1 hp2 hq2).mono ?_
          rintro e w11 ⟨q3, c3, rfl, hen, hd11⟩
          go_wp2_with fail
          refine hK.out _ _ (hH5.on hd11) (fun hH6 => ?_)
          clear hK K
          replace kof := kof.on hd11
          replace hp1 := hp1.on hd11
          replace hq1 := hq1.on hd11
          replace hp2 := hp2.on hd11
          replace hq2 := hq2.on hd11
          replace hrow := hrow.on hd11
          refine wpAnyH_take (i := 12) (v := .agg #[.slice q3 L.length c3]) rfl (by kernel_rfl) (by kernel_rfl) (by kernel_rfl) (fun _ _ _ h => h) (yk_ext (by kernel_rfl) _ _ rfl (.tuple #[.agg #[.slice q3 L.length c3], .int .i64 x]) (by kernel_rfl) _ (fun _ _ => rfl)) hH6 ?_
          refine wpAnyH_take (i := 13) (v := .int .i64 x) rfl (by kernel_rfl) (by kernel_rfl) (by kernel_rfl) (fun _ _ _ h => h) (yk_ext (by kernel_rfl) _ _ rfl (.tuple #[.agg #[.slice q3 L.length c3], .int .i64 x]) (by kernel_rfl) _ (fun _ _ => rfl)) hH6 ?_
          refine wpAnyH_ready (rs := [14]) (by kernel_rfl) (by simp) ?_
          refine AllReadyH.cons rfl (fun K hK => ?_) AllReadyH.nil
          rw [if_pos (by kernel_rfl)]
          refine wp_store_mid _ _ _ rfl (w.heap.size + 1 + 1) 0 [.slice q3 L.length c3].toArray (by kernel_rfl) (by kernel_rfl) (kof.there (Nat.le_refl 1)) szD (by simp [Value.oneCell']) ?_
          simp only [Act.put, List.getElem_toArray, List.getElem_cons_zero, List.getElem_cons_succ]
          refine hK.out _ _ (hH6.put (ne2 (by omega) (by omega)) (by omega) _) (fun hH7 => ?_)
          clear hK K
          refine wpAnyH_take (i := 15) (v := .int .i64 x) rfl (by kernel_rfl) (by kernel_rfl) (by kernel_rfl) (fun _ _ _ h => h) (yk_assign (by kernel_rfl) _ rfl _ (by kernel_rfl)) hH7 ?_
          refine wpAnyH_done (by kernel_rfl) ?_ _
          have hbf := hH7.hb
          have kf := setCells_all kof [.slice q3 L.length c3] rfl
          have hef := hen.box kof (.slice q3 L.length c3)
          change Exit.then _ _ _ _ (w11.setCells (w.heap.size + 1 + 1) 0 [.slice q3 L.length c3])
          change Ents (w11.setCells (w.heap.size + 1 + 1) 0 [.slice q3 L.length c3]) _ _ at hef
          generalize w11.setCells (w.heap.size + 1 + 1) 0 [.slice q3 L.length c3] = Y at *
          clear hen kof
          go_wp2_with fail
          refine bodyPost_ret (v := .tuple #[.agg #[.slice q3 L.length c3], .int .i64 x]) ?hr ?hd ?hp
          case hr => exact results_ct Tryz.results74 _ _ (w.heap.size + 1 + 1) 27 #[.slice q3 L.length c3] (0, 0) _ (by kernel_rfl) kf Tryz.underlying27 rfl szD _ (by kernel_rfl)
          case hd => rfl
          case hp => exact ⟨q3, c3, rfl, hef, hbf⟩
        · have kz : Blk (w3.alloc (.cells #[.int .u64 0, .int .u64 0, .int .u64 0, .int .u64 0] 31)) (w3.heap.size) 31 #[.int .u64 0, .int .u64 0, .int .u64 0, .int .u64 0] := blk1 w3 _ _
          have hzl : w1.heap.size ≤ w3.heap.size := hH1.hb.size
          go_simp
          refine hK.out _ _ (hH1.on (BW_alloc (BW_refl _) _)) (fun hH2 => ?_)
          clear hK K
          refine wpAnyH_ready (rs := [5]) (by kernel_rfl) (by simp) ?_
          refine AllReadyH.cons rfl (fun K hK => ?_) AllReadyH.nil
          go_simp
          go_at_call 99
          refine (add_any (ng E (keyB a d)) n hNb hn _).mono ?_
          rintro e w5 ⟨rfl, hd5⟩
          rw [hok, (wN_of0 hok).1]
          go_wp2_with fail
          refine hK.out _ _ (hH2.on hd5) (fun hH3 => ?_)
          clear hK K
          replace kz := kz.on hd5
          refine wpAnyH_take (i := 6) (v := .tuple #[.agg #[.int .u64 (limb (ng E (keyB a d) + n) 0), .int .u64 (limb (ng E (keyB a d) + n) 1), .int .u64 (limb (ng E (keyB a d) + n) 2), .int .u64 (limb (ng E (keyB a d) + n) 3)], .bool true]) rfl (by kernel_rfl) (by kernel_rfl) (by kernel_rfl) (fun _ _ _ h => h) (yk_move (by kernel_rfl) _ rfl _ (by kernel_rfl)) hH3 ?_
          refine wpAnyH_take (i := 7) (v := .agg #[.int .u64 (limb (ng E (keyB a d) + n) 0), .int .u64 (limb (ng E (keyB a d) + n) 1), .int .u64 (limb (ng E (keyB a d) + n) 2), .int .u64 (limb (ng E (keyB a d) + n) 3)]) rfl (by kernel_rfl) (by kernel_rfl) (by kernel_rfl) (fun _ _ _ h => h) (yk_ext (by kernel_rfl) _ _ rfl (.tuple #[.agg #[.int .u64 (limb (ng E (keyB a d) + n) 0), .int .u64 (limb (ng E (keyB a d) + n) 1), .int .u64 (limb (ng E (keyB a d) + n) 2), .int .u64 (limb (ng E (keyB a d) + n) 3)], .bool true]) (by kernel_rfl) _ (fun _ _ => rfl)) hH3 ?_
          refine wpAnyH_take (i := 8) (v := .bool true) rfl (by kernel_rfl) (by kernel_rfl) (by kernel_rfl) (fun _ _ _ h => h) (yk_ext (by kernel_rfl) _ _ rfl (.tuple #[.agg #[.int .u64 (limb (ng E (keyB a d) + n) 0), .int .u64 (limb (ng E (keyB a d) + n) 1), .int .u64 (limb (ng E (keyB a d) + n) 2), .int .u64 (limb (ng E (keyB a d) + n) 3)], .bool true]) (by kernel_rfl) _ (fun _ _ => rfl)) hH3 ?_
          refine wpAnyH_ready (rs := [10]) (by kernel_rfl) (by simp) ?_
          refine AllReadyH.cons rfl (fun K hK => ?_) AllReadyH.nil
          rw [if_pos (by kernel_rfl)]
          refine wp_store_mid _ _ _ rfl w3.heap.size 0 [.int .u64 (limb (ng E (keyB a d) + n) 0), .int .u64 (limb (ng E (keyB a d) + n) 1), .int .u64 (limb (ng E (keyB a d) + n) 2), .int .u64 (limb (ng E (keyB a d) + n) 3)].toArray (by kernel_rfl) (by kernel_rfl) (kz.there (Nat.le_refl 4)) szW (one4 _ _ _ _) ?_
          simp only [Act.put, List.getElem_toArray, List.getElem_cons_zero, List.getElem_cons_succ]
          refine hK.out _ _ (hH3.put (ne2 (by omega) (by omega)) (by omega) _) (fun hH4 => ?_)
          clear hK K
          refine wpAnyH_take (i := 11) (v := .bool true) rfl (by kernel_rfl) (by kernel_rfl) (by kernel_rfl) (fun _ _ _ h => h) (yk_assign (by kernel_rfl) _ rfl _ (by kernel_rfl)) hH4 ?_
          refine wpAnyH_done (by kernel_rfl) ?_ _
          have hB := hH4.hb
          change Exit.then _ _ _ _ (w5.setCells (w3.heap.size) 0 [.int .u64 (limb (ng E (keyB a d) + n) 0), .int .u64 (limb (ng E (keyB a d) + n) 1), .int .u64 (limb (ng E (keyB a d) + n) 2), .int .u64 (limb (ng E (keyB a d) + n) 3)])
          generalize w5.setCells (w3.heap.size) 0 [.int .u64 (limb (ng E (keyB a d) + n) 0), .int .u64 (limb (ng E (keyB a d) + n) 1), .int .u64 (limb (ng E (keyB a d) + n) 2), .int .u64 (limb (ng E (keyB a d) + n) 3)] = Z at *
          clear hH0 hH1 hH2 hH3 hH4 hd3 hd5 kz
          replace kd := kd.on hB
          replace kn := kn.on hB
          replace ko := ko.on hB
          replace hb0 := BW_on hb0 hB
          go_upto_region 6 with (fail)
          have kof := ko.drew
          have zk := keyB_size a d
          have zt := totB_size d
          have C := fun g b1 b2 w hv hr hp1 hq1 hp2 hq2 => does_mm (.slice q E.length cap) E (totB d) (keyB a d) n n b1 b2 g w hv hs hl (by omega) (by omega) hn hn hr hp1 hq1 hp2 hq2
          rw [mint_eq hs hm hok, hR] at C
          have C := Lib.hid C
          refine wp_region_held_drew (S := BxS w [(w.heap.size, 27, #[.slice q E.length cap]), (w.heap.size + 1, 31, #[.int .u64 (limb n 0), .int .u64 (limb n 1), .int .u64 (limb n 2), .int .u64 (limb n 3)])]) (by kernel_rfl) (((BxS.nil hb0).cons kn).cons kd).drew (fun hH0 => ?_)
          refine wpAnyH_take (i := 0) (v := .agg #[.slice q E.length cap]) rfl (by kernel_rfl) (by kernel_rfl) (by kernel_rfl) (fun _ _ _ h => h) (yk_load (by kernel_rfl) _ _ rfl (.pointer (some ⟨w.heap.size, 0, none⟩)) (by kernel_rfl) _ (fun w' hw' => by have c0 := (hw'.bl _ (.head _)).cell 0; go_simp)) hH0 ?_
          refine wpAnyH_take (i := 1) (v := .string d) rfl (by kernel_rfl) (by kernel_rfl) (by kernel_rfl) (fun _ _ _ h => h) (yk_move (by kernel_rfl) _ rfl _ (by kernel_rfl)) hH0 ?_
          refine wpAnyH_take (i := 3) (v := .agg #[.int .u64 (limb n 0), .int .u64 (limb n 1), .int .u64 (limb n 2), .int .u64 (limb n 3)]) rfl (by kernel_rfl) (by kernel_rfl) (by kernel_rfl) (fun _ _ _ h => h) (yk_load (by kernel_rfl) _ _ rfl (.pointer (some ⟨(w.heap.size + 1), 0, none⟩)) (by kernel_rfl) _ (fun w' hw' => by have c0 := (hw'.bl _ (.tail _ (.head _))).cell 0; have c1 := (hw'.bl _ (.tail _ (.head _))).cell 1; have c2 := (hw'.bl _ (.tail _ (.head _))).cell 2; have c3 := (hw'.bl _ (.tail _ (.head _))).cell 3; go_simp)) hH0 ?_
          refine wpAnyH_take (i := 5) (v := .string a) rfl (by kernel_rfl) (by kernel_rfl) (by kernel_rfl) (fun _ _ _ h => h) (yk_move (by kernel_rfl) _ rfl _ (by kernel_rfl)) hH0 ?_
          refine wpAnyH_take (i := 6) (v := .string d) rfl (by kernel_rfl) (by kernel_rfl) (by kernel_rfl) (fun _ _ _ h => h) (yk_move (by kernel_rfl) _ rfl _ (by kernel_rfl)) hH0 ?_
          refine wpAnyH_take (i := 8) (v := .agg #[.int .u64 (limb n 0), .int .u64 (limb n 1), .int .u64 (limb n 2), .int .u64 (limb n 3)]) rfl (by kernel_rfl) (by kernel_rfl) (by kernel_rfl) (fun _ _ _ h => h) (yk_load (by kernel_rfl) _ _ rfl (.pointer (some ⟨(w.heap.size + 1), 0, none⟩)) (by kernel_rfl) _ (fun w' hw' => by have c0 := (hw'.bl _ (.tail _ (.head _))).cell 0; have c1 := (hw'.bl _ (.tail _ (.head _))).cell 1; have c2 := (hw'.bl _ (.tail _ (.head _))).cell 2; have c3 := (hw'.bl _ (.tail _ (.head _))).cell 3; go_simp)) hH0 ?_
          refine wpAnyH_ready (rs := [2]) (by kernel_rfl) (by simp) ?_
          refine AllReadyH.cons rfl (fun K hK => ?_) AllReadyH.nil
          go_simp
          go_at_call 68
          refine (btot_any d _ (by omega)).mono ?_
          rintro e w2 ⟨rfl, hd2⟩
          go_wp2_with fail
          refine hK.out _ _ (hH0.on hd2) (fun hH1 => ?_)
          clear hK K
          replace kof := kof.on hd2
          refine wpAnyH_ready (rs := [4]) (by kernel_rfl) (by simp) ?_
          refine AllReadyH.cons rfl (fun K hK => ?_) AllReadyH.nil
          go_simp
          go_at_call 97
          refine (more_made (totB d) n _).mono ?_
          rintro e w4 ⟨b1, rfl, hp1, hq1, hd4⟩
          go_wp2_with fail
          refine hK.out _ _ (hH1.on hd4) (fun hH2 => ?_)
          clear hK K
          replace kof := kof.on hd4
          refine wpAnyH_ready (rs := [7]) (by kernel_rfl) (by simp) ?_
          refine AllReadyH.cons rfl (fun K hK => ?_) AllReadyH.nil
          go_simp
          go_at_call 69
          refine (bkey_any a d _ (by omega) (by omega)).mono ?_
          rintro e w7 ⟨rfl, hd7⟩
          go_wp2_with fail
          refine hK.out _ _ (hH2.on hd7) (fun hH3 => ?_)
          clear hK K
          replace kof := kof.on hd7
          replace hp1 := hp1.on hd7
          replace hq1 := hq1.on hd7
          refine wpAnyH_ready (rs := [9]) (by kernel_rfl) (by simp) ?_
          refine AllReadyH.cons rfl (fun K hK => ?_) AllReadyH.nil
          go_simp
          go_at_call 97
          refine (more_made (keyB a d) n _).mono ?_
          rintro e w9 ⟨b2, rfl, hp2, hq2, hd9⟩
          go_wp2_with fail
          refine hK.out _ _ (hH3.on hd9) (fun hH4 => ?_)
          clear hK K
          replace kof := kof.on hd9
          replace hp1 := hp1.on hd9
          replace hq1 := hq1.on hd9
          have hrow : Blk (w9.alloc (.cells #[.func (.func 114) #[] #[.pointer (some ⟨b1, 0, none⟩), .pointer (some ⟨b1 + 1, 0, none⟩)], .func (.func 114) #[] #[.pointer (some ⟨b2, 0, none⟩), .pointer (some ⟨b2 + 1, 0, none⟩)]] 88)) (w9.heap.size) 88 #[.func (.func 114) #[] #[.pointer (some ⟨b1, 0, none⟩), .pointer (some ⟨b1 + 1, 0, none⟩)], .func (.func 114) #[] #[.pointer (some ⟨b2, 0, none⟩), .pointer (some ⟨b2 + 1, 0, none⟩)]] := blk1 _ _ _
          refine wpAnyH_ready (rs := [10]) (by kernel_rfl) (by simp) ?_
          refine AllReadyH.cons rfl (fun K hK => ?_) AllReadyH.nil
          go_simp
          refine hK.out _ _ (hH4.on (BW_alloc (BW_refl _) _)) (fun hH5 => ?_)
          clear hK K
          replace kof := kof.on (BW_alloc (BW_refl _) (.cells #[.func (.func 114) #[] #[.pointer (some ⟨b1, 0, none⟩), .pointer (some ⟨b1 + 1, 0, none⟩)], .func (.func 114) #[] #[.pointer (some ⟨b2, 0, none⟩), .pointer (some ⟨b2 + 1, 0, none⟩)]] 88))
          replace hp1 := hp1.on (BW_alloc (BW_refl _) (.cells #[.func (.func 114) #[] #[.pointer (some ⟨b1, 0, none⟩), .pointer (some ⟨b1 + 1, 0, none⟩)], .func (.func 114) #[] #[.pointer (some ⟨b2, 0, none⟩), .pointer (some ⟨b2 + 1, 0, none⟩)]] 88))
          replace hq1 := hq1.on (BW_alloc (BW_refl _) (.cells #[.func (.func 114) #[] #[.pointer (some ⟨b1, 0, none⟩), .pointer (some ⟨b1 + 1, 0, none⟩)], .func (.func 114) #[] #[.pointer (some ⟨b2, 0, none⟩), .pointer (some ⟨b2 + 1, 0, none⟩)]] 88))
          replace hp2 := hp2.on (BW_alloc (BW_refl _) (.cells #[.func (.func 114) #[] #[.pointer (some ⟨b1, 0, none⟩), .pointer (some ⟨b1 + 1, 0, none⟩)], .func (.func 114) #[] #[.pointer (some ⟨b2, 0, none⟩), .pointer (some ⟨b2 + 1, 0, none⟩)]] 88))
          replace hq2 := hq2.on (BW_alloc (BW_refl _) (.cells #[.func (.func 114) #[] #[.pointer (some ⟨b1, 0, none⟩), .pointer (some ⟨b1 + 1, 0, none⟩)], .func (.func 114) #[] #[.pointer (some ⟨b2, 0, none⟩), .pointer (some ⟨b2 + 1, 0, none⟩)]] 88))
          refine wpAnyH_ready (rs := [11]) (by kernel_rfl) (by simp) ?_
          refine AllReadyH.cons rfl (fun K hK => ?_) AllReadyH.nil
          go_simp
          go_at_call 66
          refine (C.out _ _ _ _ (hv.on hH5.hb) hrow hp1 hq1 hp2 hq2).mono ?_
          rintro e w11 ⟨q3, c3, rfl, hen, hd11⟩
          go_wp2_with fail
          refine hK.out _ _ (hH5.on hd11) (fun hH6 => ?_)
          clear hK K
          replace kof := kof.on hd11
          replace hp1 := hp1.on hd11
          replace hq1 := hq1.on hd11
          replace hp2 := hp2.on hd11
          replace hq2 := hq2.on hd11
          replace hrow := hrow.on hd11
          refine wpAnyH_take (i := 12) (v := .agg #[.slice q3 L.length c3]) rfl (by kernel_rfl) (by kernel_rfl) (by kernel_rfl) (fun _ _ _ h => h) (yk_ext (by kernel_rfl) _ _ rfl (.tuple #[.agg #[.slice q3 L.length c3], .int .i64 x]) (by kernel_rfl) _ (fun _ _ => rfl)) hH6 ?_
          refine wpAnyH_take (i := 13) (v := .int .i64 x) rfl (by kernel_rfl) (by kernel_rfl) (by kernel_rfl) (fun _ _ _ h => h) (yk_ext (by kernel_rfl) _ _ rfl (.tuple #[.agg #[.slice q3 L.length c3], .int .i64 x]) (by kernel_rfl) _ (fun _ _ => rfl)) hH6 ?_
          refine wpAnyH_ready (rs := [14]) (by kernel_rfl) (by simp) ?_
          refine AllReadyH.cons rfl (fun K hK => ?_) AllReadyH.nil
          rw [if_pos (by kernel_rfl)]
          refine wp_store_mid _ _ _ rfl (w.heap.size + 1 + 1) 0 [.slice q3 L.length c3].toArray (by kernel_rfl) (by kernel_rfl) (kof.there (Nat.le_refl 1)) szD (by simp [Value.oneCell']) ?_
          simp only [Act.put, List.getElem_toArray, List.getElem_cons_zero, List.getElem_cons_succ]
          refine hK.out _ _ (hH6.put (ne2 (by omega) (by omega)) (by omega) _) (fun hH7 => ?_)
          clear hK K
          refine wpAnyH_take (i := 15) (v := .int .i64 x) rfl (by kernel_rfl) (by kernel_rfl) (by kernel_rfl) (fun _ _ _ h => h) (yk_assign (by kernel_rfl) _ rfl _ (by kernel_rfl)) hH7 ?_
          refine wpAnyH_done (by kernel_rfl) ?_ _
          have hbf := hH7.hb
          have kf := setCells_all kof [.slice q3 L.length c3] rfl
          have hef := hen.box kof (.slice q3 L.length c3)
          change Exit.then _ _ _ _ (w11.setCells (w.heap.size + 1 + 1) 0 [.slice q3 L.length c3])
          change Ents (w11.setCells (w.heap.size + 1 + 1) 0 [.slice q3 L.length c3]) _ _ at hef
          generalize w11.setCells (w.heap.size + 1 + 1) 0 [.slice q3 L.length c3] = Y at *
          clear hen kof
          go_wp2_with fail
          refine bodyPost_ret (v := .tuple #[.agg #[.slice q3 L.length c3], .int .i64 x]) ?hr ?hd ?hp
          case hr => exact results_ct Tryz.results74 _ _ (w.heap.size + 1 + 1) 27 #[.slice q3 L.length c3] (0, 0) _ (by kernel_rfl) kf Tryz.underlying27 rfl szD _ (by kernel_rfl)
          case hd => rfl
          case hp => exact ⟨q3, c3, rfl, hef, hbf⟩
      · have kz : Blk (w1.drew.alloc (.cells #[.int .u64 0, .int .u64 0, .int .u64 0, .int .u64 0] 31)) (w1.heap.size) 31 #[.int .u64 0, .int .u64 0, .int .u64 0, .int .u64 0] := blk1 w1.drew _ _
        have hzl : w1.heap.size ≤ w1.heap.size := hH0.hb.size
        go_simp
        refine hK.out _ _ (hH0.on (BW_alloc (BW_refl _) _)) (fun hH1 => ?_)
        clear hK K
        refine wpAnyH_ready (rs := [3]) (by kernel_rfl) (by simp) ?_
        refine AllReadyH.cons rfl (fun K hK => ?_) AllReadyH.nil
        go_simp
        go_at_call 100
        refine (bbal_any _ E a d _ (hvw.on hH1.hb) hs (by omega) (by omega) (by omega)).mono ?_
        rintro e w3 ⟨rfl, hd3⟩
        go_wp2_with fail
        refine hK.out _ _ (hH1.on hd3) (fun hH2 => ?_)
        clear hK K
        replace kz := kz.on hd3
        refine wpAnyH_ready (rs := [5]) (by kernel_rfl) (by simp) ?_
        refine AllReadyH.cons rfl (fun K hK => ?_) AllReadyH.nil
        go_simp
        go_at_call 99
        refine (add_any (ng E (keyB a d)) n hNb hn _).mono ?_
        rintro e w5 ⟨rfl, hd5⟩
        rw [hok, (wN_of0 hok).1]
        go_wp2_with fail
        refine hK.out _ _ (hH2.on hd5) (fun hH3 => ?_)
        clear hK K
        replace kz := kz.on hd5
        refine wpAnyH_take (i := 6) (v := .tuple #[.agg #[.int .u64 (limb (ng E (keyB a d) + n) 0), .int .u64 (limb (ng E (keyB a d) + n) 1), .int .u64 (limb (ng E (keyB a d) + n) 2), .int .u64 (limb (ng E (keyB a d) + n) 3)], .bool true]) rfl (by kernel_rfl) (by kernel_rfl) (by kernel_rfl) (fun _ _ _ h => h) (yk_move (by kernel_rfl) _ rfl _ (by kernel_rfl)) hH3 ?_
        refine wpAnyH_take (i := 7) (v := .agg #[.int .u64 (limb (ng E (keyB a d) + n) 0), .int .u64 (limb (ng E (keyB a d) + n) 1), .int .u64 (limb (ng E (keyB a d) + n) 2), .int .u64 (limb (ng E (keyB a d) + n) 3)]) rfl (by kernel_rfl) (by kernel_rfl) (by kernel_rfl) (fun _ _ _ h => h) (yk_ext (by kernel_rfl) _ _ rfl (.tuple #[.agg #[.int .u64 (limb (ng E (keyB a d) + n) 0), .int .u64 (limb (ng E (keyB a d) + n) 1), .int .u64 (limb (ng E (keyB a d) + n) 2), .int .u64 (limb (ng E (keyB a d) + n) 3)], .bool true]) (by kernel_rfl) _ (fun _ _ => rfl)) hH3 ?_
        refine wpAnyH_take (i := 8) (v := .bool true) rfl (by kernel_rfl) (by kernel_rfl) (by kernel_rfl) (fun _ _ _ h => h) (yk_ext (by kernel_rfl) _ _ rfl (.tuple #[.agg #[.int .u64 (limb (ng E (keyB a d) + n) 0), .int .u64 (limb (ng E (keyB a d) + n) 1), .int .u64 (limb (ng E (keyB a d) + n) 2), .int .u64 (limb (ng E (keyB a d) + n) 3)], .bool true]) (by kernel_rfl) _ (fun _ _ => rfl)) hH3 ?_
        refine wpAnyH_ready (rs := [10]) (by kernel_rfl) (by simp) ?_
        refine AllReadyH.cons rfl (fun K hK => ?_) AllReadyH.nil
        rw [if_pos (by kernel_rfl)]
        refine wp_store_mid _ _ _ rfl w1.heap.size 0 [.int .u64 (limb (ng E (keyB a d) + n) 0), .int .u64 (limb (ng E (keyB a d) + n) 1), .int .u64 (limb (ng E (keyB a d) + n) 2), .int .u64 (limb (ng E (keyB a d) + n) 3)].toArray (by kernel_rfl) (by kernel_rfl) (kz.there (Nat.le_refl 4)) szW (one4 _ _ _ _) ?_
        simp only [Act.put, List.getElem_toArray, List.getElem_cons_zero, List.getElem_cons_succ]
        refine hK.out _ _ (hH3.put (ne2 (by omega) (by omega)) (by omega) _) (fun hH4 => ?_)
        clear hK K
        refine wpAnyH_take (i := 11) (v := .bool true) rfl (by kernel_rfl) (by kernel_rfl) (by kernel_rfl) (fun _ _ _ h => h) (yk_assign (by kernel_rfl) _ rfl _ (by kernel_rfl)) hH4 ?_
        refine wpAnyH_done (by kernel_rfl) ?_ _
        have hB := hH4.hb
        change Exit.then _ _ _ _ (w5.setCells (w1.heap.size) 0 [.int .u64 (limb (ng E (keyB a d) + n) 0), .int .u64 (limb (ng E (keyB a d) + n) 1), .int .u64 (limb (ng E (keyB a d) + n) 2), .int .u64 (limb (ng E (keyB a d) + n) 3)])
        generalize w5.setCells (w1.heap.size) 0 [.int .u64 (limb (ng E (keyB a d) + n) 0), .int .u64 (limb (ng E (keyB a d) + n) 1), .int .u64 (limb (ng E (keyB a d) + n) 2), .int .u64 (limb (ng E (keyB a d) + n) 3)] = Z at *
        clear hH0 hH1 hH2 hH3 hH4 hd3 hd5 kz
        replace kd := kd.on hB
        replace kn := kn.on hB
        replace ko := ko.on hB
        replace hb0 := BW_on hb0 hB
        go_upto_region 6 with (fail)
        have kof := ko.drew
        have zk := keyB_size a d
        have zt := totB_size d
        have C := fun g b1 b2 w hv hr hp1 hq1 hp2 hq2 => does_mm (.slice q E.length cap) E (totB d) (keyB a d) n n b1 b2 g w hv hs hl (by omega) (by omega) hn hn hr hp1 hq1 hp2 hq2
        rw [mint_eq hs hm hok, hR] at C
        have C := Lib.hid C
        refine wp_region_held_drew (S := BxS w [(w.heap.size, 27, #[.slice q E.length cap]), (w.heap.size + 1, 31, #[.int .u64 (limb n 0), .int .u64 (limb n 1), .int .u64 (limb n 2), .int .u64 (limb n 3)])]) (by kernel_rfl) (((BxS.nil hb0).cons kn).cons kd).drew (fun hH0 => ?_)
        refine wpAnyH_take (i := 0) (v := .agg #[.slice q E.length cap]) rfl (by kernel_rfl) (by kernel_rfl) (by kernel_rfl) (fun _ _ _ h => h) (yk_load (by kernel_rfl) _ _ rfl (.pointer (some ⟨w.heap.size, 0, none⟩)) (by kernel_rfl) _ (fun w' hw' => by have c0 := (hw'.bl _ (.head _)).cell 0; go_simp)) hH0 ?_
        refine wpAnyH_take (i := 1) (v := .string d) rfl (by kernel_rfl) (by kernel_rfl) (by kernel_rfl) (fun _ _ _ h => h) (yk_move (by kernel_rfl) _ rfl _ (by kernel_rfl)) hH0 ?_
        refine wpAnyH_take (i := 3) (v := .agg #[.int .u64 (limb n 0), .int .u64 (limb n 1), .int .u64 (limb n 2), .int .u64 (limb n 3)]) rfl (by kernel_rfl) (by kernel_rfl) (by kernel_rfl) (fun _ _ _ h => h) (yk_load (by kernel_rfl) _ _ rfl (.pointer (some ⟨(w.heap.size + 1), 0, none⟩)) (by kernel_rfl) _ (fun w' hw' => by have c0 := (hw'.bl _ (.tail _ (.head _))).cell 0; have c1 := (hw'.bl _ (.tail _ (.head _))).cell 1; have c2 := (hw'.bl _ (.tail _ (.head _))).cell 2; have c3 := (hw'.bl _ (.tail _ (.head _))).cell 3; go_simp)) hH0 ?_
        refine wpAnyH_take (i := 5) (v := .string a) rfl (by kernel_rfl) (by kernel_rfl) (by kernel_rfl) (fun _ _ _ h => h) (yk_move (by kernel_rfl) _ rfl _ (by kernel_rfl)) hH0 ?_
        refine wpAnyH_take (i := 6) (v := .string d) rfl (by kernel_rfl) (by kernel_rfl) (by kernel_rfl) (fun _ _ _ h => h) (yk_move (by kernel_rfl) _ rfl _ (by kernel_rfl)) hH0 ?_
        refine wpAnyH_take (i := 8) (v := .agg #[.int .u64 (limb n 0), .int .u64 (limb n 1), .int .u64 (limb n 2), .int .u64 (limb n 3)]) rfl (by kernel_rfl) (by kernel_rfl) (by kernel_rfl) (fun _ _ _ h => h) (yk_load (by kernel_rfl) _ _ rfl (.pointer (some ⟨(w.heap.size + 1), 0, none⟩)) (by kernel_rfl) _ (fun w' hw' => by have c0 := (hw'.bl _ (.tail _ (.head _))).cell 0; have c1 := (hw'.bl _ (.tail _ (.head _))).cell 1; have c2 := (hw'.bl _ (.tail _ (.head _))).cell 2; have c3 := (hw'.bl _ (.tail _ (.head _))).cell 3; go_simp)) hH0 ?_
        refine wpAnyH_ready (rs := [2]) (by kernel_rfl) (by simp) ?_
        refine AllReadyH.cons rfl (fun K hK => ?_) AllReadyH.nil
        go_simp
        go_at_call 68
        refine (btot_any d _ (by omega)).mono ?_
        rintro e w2 ⟨rfl, hd2⟩
        go_wp2_with fail
        refine hK.out _ _ (hH0.on hd2) (fun hH1 => ?_)
        clear hK K
        replace kof := kof.on hd2
        refine wpAnyH_ready (rs := [4]) (by kernel_rfl) (by simp) ?_
        refine AllReadyH.cons rfl (fun K hK => ?_) AllReadyH.nil
        go_simp
        go_at_call 97
        refine (more_made (totB d) n _).mono ?_
        rintro e w4 ⟨b1, rfl, hp1, hq1, hd4⟩
        go_wp2_with fail
        refine hK.out _ _ (hH1.on hd4) (fun hH2 => ?_)
        clear hK K
        replace kof := kof.on hd4
        refine wpAnyH_ready (rs := [7]) (by kernel_rfl) (by simp) ?_
        refine AllReadyH.cons rfl (fun K hK => ?_) AllReadyH.nil
        go_simp
        go_at_call 69
        refine (bkey_any a d _ (by omega) (by omega)).mono ?_
        rintro e w7 ⟨rfl, hd7⟩
        go_wp2_with fail
        refine hK.out _ _ (hH2.on hd7) (fun hH3 => ?_)
        clear hK K
        replace kof := kof.on hd7
        replace hp1 := hp1.on hd7
        replace hq1 := hq1.on hd7
        refine wpAnyH_ready (rs := [9]) (by kernel_rfl) (by simp) ?_
        refine AllReadyH.cons rfl (fun K hK => ?_) AllReadyH.nil
        go_simp
        go_at_call 97
        refine (more_made (keyB a d) n _).mono ?_
        rintro e w9 ⟨b2, rfl, hp2, hq2, hd9⟩
        go_wp2_with fail
        refine hK.out _ _ (hH3.on hd9) (fun hH4 => ?_)
        clear hK K
        replace kof := kof.on hd9
        replace hp1 := hp1.on hd9
        replace hq1 := hq1.on hd9
        have hrow : Blk (w9.alloc (.cells #[.func (.func 114) #[] #[.pointer (some ⟨b1, 0, none⟩), .pointer (some ⟨b1 + 1, 0, none⟩)], .func (.func 114) #[] #[.pointer (some ⟨b2, 0, none⟩), .pointer (some ⟨b2 + 1, 0, none⟩)]] 88)) (w9.heap.size) 88 #[.func (.func 114) #[] #[.pointer (some ⟨b1, 0, none⟩), .pointer (some ⟨b1 + 1, 0, none⟩)], .func (.func 114) #[] #[.pointer (some ⟨b2, 0, none⟩), .pointer (some ⟨b2 + 1, 0, none⟩)]] := blk1 _ _ _
        refine wpAnyH_ready (rs := [10]) (by kernel_rfl) (by simp) ?_
        refine AllReadyH.cons rfl (fun K hK => ?_) AllReadyH.nil
        go_simp
        refine hK.out _ _ (hH4.on (BW_alloc (BW_refl _) _)) (fun hH5 => ?_)
        clear hK K
        replace kof := kof.on (BW_alloc (BW_refl _) (.cells #[.func (.func 114) #[] #[.pointer (some ⟨b1, 0, none⟩), .pointer (some ⟨b1 + 1, 0, none⟩)], .func (.func 114) #[] #[.pointer (some ⟨b2, 0, none⟩), .pointer (some ⟨b2 + 1, 0, none⟩)]] 88))
        replace hp1 := hp1.on (BW_alloc (BW_refl _) (.cells #[.func (.func 114) #[] #[.pointer (some ⟨b1, 0, none⟩), .pointer (some ⟨b1 + 1, 0, none⟩)], .func (.func 114) #[] #[.pointer (some ⟨b2, 0, none⟩), .pointer (some ⟨b2 + 1, 0, none⟩)]] 88))
        replace hq1 := hq1.on (BW_alloc (BW_refl _) (.cells #[.func (.func 114) #[] #[.pointer (some ⟨b1, 0, none⟩), .pointer (some ⟨b1 + 1, 0, none⟩)], .func (.func 114) #[] #[.pointer (some ⟨b2, 0, none⟩), .pointer (some ⟨b2 + 1, 0, none⟩)]] 88))
        replace hp2 := hp2.on (BW_alloc (BW_refl _) (.cells #[.func (.func 114) #[] #[.pointer (some ⟨b1, 0, none⟩), .pointer (some ⟨b1 + 1, 0, none⟩)], .func (.func 114) #[] #[.pointer (some ⟨b2, 0, none⟩), .pointer (some ⟨b2 + 1, 0, none⟩)]] 88))
        replace hq2 := hq2.on (BW_alloc (BW_refl _) (.cells #[.func (.func 114) #[] #[.pointer (some ⟨b1, 0, none⟩), .pointer (some ⟨b1 + 1, 0, none⟩)], .func (.func 114) #[] #[.pointer (some ⟨b2, 0, none⟩), .pointer (some ⟨b2 + 1, 0, none⟩)]] 88))
        refine wpAnyH_ready (rs := [11]) (by kernel_rfl) (by simp) ?_
        refine AllReadyH.cons rfl (fun K hK => ?_) AllReadyH.nil
        go_simp
        go_at_call 66
        refine (C.out _ _ _ _ (hv.on hH5.hb) hrow hp1 hq1 hp2 hq2).mono ?_
        rintro e w11 ⟨q3, c3, rfl, hen, hd11⟩
        go_wp2_with fail
        refine hK.out _ _ (hH5.on hd11) (fun hH6 => ?_)
        clear hK K
        replace kof := kof.on hd11
        replace hp1 := hp1.on hd11
        replace hq1 := hq1.on hd11
        replace hp2 := hp2.on hd11
        replace hq2 := hq2.on hd11
        replace hrow := hrow.on hd11
        refine wpAnyH_take (i := 12) (v := .agg #[.slice q3 L.length c3]) rfl (by kernel_rfl) (by kernel_rfl) (by kernel_rfl) (fun _ _ _ h => h) (yk_ext (by kernel_rfl) _ _ rfl (.tuple #[.agg #[.slice q3 L.length c3], .int .i64 x]) (by kernel_rfl) _ (fun _ _ => rfl)) hH6 ?_
        refine wpAnyH_take (i := 13) (v := .int .i64 x) rfl (by kernel_rfl) (by kernel_rfl) (by kernel_rfl) (fun _ _ _ h => h) (yk_ext (by kernel_rfl) _ _ rfl (.tuple #[.agg #[.slice q3 L.length c3], .int .i64 x]) (by kernel_rfl) _ (fun _ _ => rfl)) hH6 ?_
        refine wpAnyH_ready (rs := [14]) (by kernel_rfl) (by simp) ?_
        refine AllReadyH.cons rfl (fun K hK => ?_) AllReadyH.nil
        rw [if_pos (by kernel_rfl)]
        refine wp_store_mid _ _ _ rfl (w.heap.size + 1 + 1) 0 [.slice q3 L.length c3].toArray (by kernel_rfl) (by kernel_rfl) (kof.there (Nat.le_refl 1)) szD (by simp [Value.oneCell']) ?_
        simp only [Act.put, List.getElem_toArray, List.getElem_cons_zero, List.getElem_cons_succ]
        refine hK.out _ _ (hH6.put (ne2 (by omega) (by omega)) (by omega) _) (fun hH7 => ?_)
        clear hK K
        refine wpAnyH_take (i := 15) (v := .int .i64 x) rfl (by kernel_rfl) (by kernel_rfl) (by kernel_rfl) (fun _ _ _ h => h) (yk_assign (by kernel_rfl) _ rfl _ (by kernel_rfl)) hH7 ?_
        refine wpAnyH_done (by kernel_rfl) ?_ _
        have hbf := hH7.hb
        have kf := setCells_all kof [.slice q3 L.length c3] rfl
        have hef := hen.box kof (.slice q3 L.length c3)
        change Exit.then _ _ _ _ (w11.setCells (w.heap.size + 1 + 1) 0 [.slice q3 L.length c3])
        change Ents (w11.setCells (w.heap.size + 1 + 1) 0 [.slice q3 L.length c3]) _ _ at hef
        generalize w11.setCells (w.heap.size + 1 + 1) 0 [.slice q3 L.length c3] = Y at *
        clear hen kof
        go_wp2_with fail
        refine bodyPost_ret (v := .tuple #[.agg #[.slice q3 L.length c3], .int .i64 x]) ?hr ?hd ?hp
        case hr => exact results_ct Tryz.results74 _ _ (w.heap.size + 1 + 1) 27 #[.slice q3 L.length c3] (0, 0) _ (by kernel_rfl) kf Tryz.underlying27 rfl szD _ (by kernel_rfl)
        case hd => rfl
        case hp => exact ⟨q3, c3, rfl, hef, hbf⟩
set_option maxHeartbeats 8000000 in
set_option maxRecDepth 100000 in
theorem bburn_any (v : Value) (E : List Ent) (a d : ByteArray) (n : Nat) (w : World) (hv : Ents w v E) (hs : Srt E) (hl : E.length ≤ 1800) (hn : W256 n) :
    Calls Tryz.prog 33 #[.agg #[v], .string a, .string d, .agg #[.int .u64 (limb n 0), .int .u64 (limb n 1), .int .u64 (limb n 2), .int .u64 (limb n 3)]] w fun e w' => ∃ q cap, e = .returned (.tuple #[.agg #[.slice q (burnL E a d n).2.length cap], .int .i64 (burnL E a d n).1]) ∧ Ents w' (.slice q (burnL E a d n).2.length cap) (burnL E a d n).2 ∧ Below w.heap.size w w' := by
  obtain ⟨q, cap, rfl⟩ := hv.len
  rcases hR : burnL E a d n with ⟨x, L⟩
  have hb0 := BW_alloc (BW_alloc (BW_alloc (BW_refl w) (.cells #[.slice q E.length cap] 27)) (.cells #[.int .u64 (limb n 0), .int .u64 (limb n 1), .int .u64 (limb n 2), .int .u64 (limb n 3)] 31)) (.cells #[.slice none 0 0] 27)
  have kd := ((blk1 w 27 #[.slice q E.length cap]).alloc (.cells #[.int .u64 (limb n 0), .int .u64 (limb n 1), .int .u64 (limb n 2), .int .u64 (limb n 3)] 31)).alloc (.cells #[.slice none 0 0] 27)
  have kn := (blk2 w (.cells #[.slice q E.length cap] 27) 31 #[.int .u64 (limb n 0), .int .u64 (limb n 1), .int .u64 (limb n 2), .int .u64 (limb n 3)]).alloc (.cells #[.slice none 0 0] 27)
  have ko := blk3 w (.cells #[.slice q E.length cap] 27) (.cells #[.int .u64 (limb n 0), .int .u64 (limb n 1), .int .u64 (limb n 2), .int .u64 (limb n 3)] 31) 27 #[.slice none 0 0]
  go_enter Tryz.func33, Tryz.ntmps33
  go_upto_region 1 with (fail)
  change Code.wp _ _ _ _ (((w.alloc (.cells #[.slice q E.length cap] 27)).alloc (.cells #[.int .u64 (limb n 0), .int .u64 (limb n 1), .int .u64 (limb n 2), .int .u64 (limb n 3)] 31)).alloc (.cells #[.slice none 0 0] 27))
  generalize ((w.alloc (.cells #[.slice q E.length cap] 27)).alloc (.cells #[.int .u64 (limb n 0), .int .u64 (limb n 1), .int .u64 (limb n 2), .int .u64 (limb n 3)] 31)).alloc (.cells #[.slice none 0 0] 27) = W at *
  have cn := fun i => kn.cell i
  go_wp2_with fail
  have kr := blk1 W 9 #[.string a]
  refine (may_one a d n W.heap.size _ hn kr).mono ?_
  rintro e w1 ⟨rfl, hb1⟩
  have hBW := BW_on (BW_alloc (BW_refl W) (.cells #[.string a] 9)) hb1
  replace hb0 := BW_on hb0 hBW
  replace kd := kd.on hBW
  replace kn := kn.on hBW
  replace ko := ko.on hBW
  clear kr hb1 hBW cn
  cases hm : may1 a d n
  · obtain ⟨rfl, rfl⟩ := Prod.mk.inj ((show burnL E a d n = (1, []) from if_neg (by rw [hm]; exact Bool.false_ne_true)).symm.trans hR)
    clear hR hm
    have co := fun i => ko.cell i
    have fo := fun i => ko.free i
    have hbf := hb0.setCell (p := ⟨w.heap.size + 1 + 1, 0, none⟩) (by show w.heap.size ≤ w.heap.size + 1 + 1; omega) (.slice none 0 0)
    go_wp2_with fail
    have hcc := fun i => (ko.set_ 0 (.slice none 0 0)).cell i
    refine bodyPost_ret (v := .tuple #[.agg #[.slice none 0 0], .int .i64 1]) (by simp [results, Tryz.results33, go_sem, hcc]) rfl ⟨none, 0, rfl, Ents.nil _, hbf⟩
  · obtain ⟨_, hna, hnd⟩ := may1_pos hm
    have za := okName_size hna
    have zd := okDn_size hnd
    go_upto_region 3 with (fail)
    have kof := ko.drew
    have zk := keyB_size a d
    have zt := totB_size d
    have C := fun g b1 b2 w hv hr hp1 hq1 hp2 hq2 => does_ll (.slice q E.length cap) E (totB d) (keyB a d) n n b1 b2 g w hv hs hl (by omega) (by omega) hn hn hr hp1 hq1 hp2 hq2
    rw [burn_eq hs hm, hR] at C
    have C := Lib.hid C
    refine wp_region_held_drew (S := BxS w [(w.heap.size, 27, #[.slice q E.length cap]), (w.heap.size + 1, 31, #[.int .u64 (limb n 0), .int .u64 (limb n 1), .int .u64 (limb n 2), .int .u64 (limb n 3)])]) (by kernel_rfl) (((BxS.nil hb0).cons kn).cons kd).drew (fun hH0 => ?_)
    refine wpAnyH_take (i := 0) (v := .agg #[.slice q E.length cap]) rfl (by kernel_rfl) (by kernel_rfl) (by kernel_rfl) (fun _ _ _ h => h) (yk_load (by kernel_rfl) _ _ rfl (.pointer (some ⟨w.heap.size, 0, none⟩)) (by kernel_rfl) _ (fun w' hw' => by have c0 := (hw'.bl _ (.head _)).cell 0; go_simp)) hH0 ?_
    refine wpAnyH_take (i := 1) (v := .string d) rfl (by kernel_rfl) (by kernel_rfl) (by kernel_rfl) (fun _ _ _ h => h) (yk_move (by kernel_rfl) _ rfl _ (by kernel_rfl)) hH0 ?_
    refine wpAnyH_take (i := 3) (v := .agg #[.int .u64 (limb n 0), .int .u64 (limb n 1), .int .u64 (limb n 2), .int .u64 (limb n 3)]) rfl (by kernel_rfl) (by kernel_rfl) (by kernel_rfl) (fun _ _ _ h => h) (yk_load (by kernel_rfl) _ _ rfl (.pointer (some ⟨(w.heap.size + 1), 0, none⟩)) (by kernel_rfl) _ (fun w' hw' => by have c0 := (hw'.bl _ (.tail _ (.head _))).cell 0; have c1 := (hw'.bl _ (.tail _ (.head _))).cell 1; have c2 := (hw'.bl _ (.tail _ (.head _))).cell 2; have c3 := (hw'.bl _ (.tail _ (.head _))).cell 3; go_simp)) hH0 ?_
    refine wpAnyH_take (i := 5) (v := .string a) rfl (by kernel_rfl) (by kernel_rfl) (by kernel_rfl) (fun _ _ _ h => h) (yk_move (by kernel_rfl) _ rfl _ (by kernel_rfl)) hH0 ?_
    refine wpAnyH_take (i := 6) (v := .string d) rfl (by kernel_rfl) (by kernel_rfl) (by kernel_rfl) (fun _ _ _ h => h) (yk_move (by kernel_rfl) _ rfl _ (by kernel_rfl)) hH0 ?_
    refine wpAnyH_take (i := 8) (v := .agg #[.int .u64 (limb n 0), .int .u64 (limb n 1), .int .u64 (limb n 2), .int .u64 (limb n 3)]) rfl (by kernel_rfl) (by kernel_rfl) (by kernel_rfl) (fun _ _ _ h => h) (yk_load (by kernel_rfl) _ _ rfl (.pointer (some ⟨(w.heap.size + 1), 0, none⟩)) (by kernel_rfl) _ (fun w' hw' => by have c0 := (hw'.bl _ (.tail _ (.head _))).cell 0; have c1 := (hw'.bl _ (.tail _ (.head _))).cell 1; have c2 := (hw'.bl _ (.tail _ (.head _))).cell 2; have c3 := (hw'.bl _ (.tail _ (.head _))).cell 3; go_simp)) hH0 ?_
    refine wpAnyH_ready (rs := [2]) (by kernel_rfl) (by simp) ?_
    refine AllReadyH.cons rfl (fun K hK => ?_) AllReadyH.nil
    go_simp
    go_at_call 68
    refine (btot_any d _ (by omega)).mono ?_
    rintro e w2 ⟨rfl, hd2⟩
    go_wp2_with fail
    refine hK.out _ _ (hH0.on hd2) (fun hH1 => ?_)
    clear hK K
    replace kof := kof.on hd2
    refine wpAnyH_ready (rs := [4]) (by kernel_rfl) (by simp) ?_
    refine AllReadyH.cons rfl (fun K hK => ?_) AllReadyH.nil
    go_simp
    go_at_call 67
    refine (less_made (totB d) n _).mono ?_
    rintro e w4 ⟨b1, rfl, hp1, hq1, hd4⟩
    go_wp2_with fail
    refine hK.out _ _ (hH1.on hd4) (fun hH2 => ?_)
    clear hK K
    replace kof := kof.on hd4
    refine wpAnyH_ready (rs := [7]) (by kernel_rfl) (by simp) ?_
    refine AllReadyH.cons rfl (fun K hK => ?_) AllReadyH.nil
    go_simp
    go_at_call 69
    refine (bkey_any a d _ (by omega) (by omega)).mono ?_
    rintro e w7 ⟨rfl, hd7⟩
    go_wp2_with fail
    refine hK.out _ _ (hH2.on hd7) (fun hH3 => ?_)
    clear hK K
    replace kof := kof.on hd7
    replace hp1 := hp1.on hd7
    replace hq1 := hq1.on hd7
    refine wpAnyH_ready (rs := [9]) (by kernel_rfl) (by simp) ?_
    refine AllReadyH.cons rfl (fun K hK => ?_) AllReadyH.nil
    go_simp
    go_at_call 67
    refine (less_made (keyB a d) n _).mono ?_
    rintro e w9 ⟨b2, rfl, hp2, hq2, hd9⟩
    go_wp2_with fail
    refine hK.out _ _ (hH3.on hd9) (fun hH4 => ?_)
    clear hK K
    replace kof := kof.on hd9
    replace hp1 := hp1.on hd9
    replace hq1 := hq1.on hd9
    have hrow : Blk (w9.alloc (.cells #[.func (.func 91) #[] #[.pointer (some ⟨b1, 0, none⟩), .pointer (some ⟨b1 + 1, 0, none⟩)], .func (.func 91) #[] #[.pointer (some ⟨b2, 0, none⟩), .pointer (some ⟨b2 + 1, 0, none⟩)]] 88)) (w9.heap.size) 88 #[.func (.func 91) #[] #[.pointer (some ⟨b1, 0, none⟩), .pointer (some ⟨b1 + 1, 0, none⟩)], .func (.func 91) #[] #[.pointer (some ⟨b2, 0, none⟩), .pointer (some ⟨b2 + 1, 0, none⟩)]] := blk1 _ _ _
    refine wpAnyH_ready (rs := [10]) (by kernel_rfl) (by simp) ?_
    refine AllReadyH.cons rfl (fun K hK => ?_) AllReadyH.nil
    go_simp
    refine hK.out _ _ (hH4.on (BW_alloc (BW_refl _) _)) (fun hH5 => ?_)
    clear hK K
    replace kof := kof.on (BW_alloc (BW_refl _) (.cells #[.func (.func 91) #[] #[.pointer (some ⟨b1, 0, none⟩), .pointer (some ⟨b1 + 1, 0, none⟩)], .func (.func 91) #[] #[.pointer (some ⟨b2, 0, none⟩), .pointer (some ⟨b2 + 1, 0, none⟩)]] 88))
    replace hp1 := hp1.on (BW_alloc (BW_refl _) (.cells #[.func (.func 91) #[] #[.pointer (some ⟨b1, 0, none⟩), .pointer (some ⟨b1 + 1, 0, none⟩)], .func (.func 91) #[] #[.pointer (some ⟨b2, 0, none⟩), .pointer (some ⟨b2 + 1, 0, none⟩)]] 88))
    replace hq1 := hq1.on (BW_alloc (BW_refl _) (.cells #[.func (.func 91) #[] #[.pointer (some ⟨b1, 0, none⟩), .pointer (some ⟨b1 + 1, 0, none⟩)], .func (.func 91) #[] #[.pointer (some ⟨b2, 0, none⟩), .pointer (some ⟨b2 + 1, 0, none⟩)]] 88))
    replace hp2 := hp2.on (BW_alloc (BW_refl _) (.cells #[.func (.func 91) #[] #[.pointer (some ⟨b1, 0, none⟩), .pointer (some ⟨b1 + 1, 0, none⟩)], .func (.func 91) #[] #[.pointer (some ⟨b2, 0, none⟩), .pointer (some ⟨b2 + 1, 0, none⟩)]] 88))
    replace hq2 := hq2.on (BW_alloc (BW_refl _) (.cells #[.func (.func 91) #[] #[.pointer (some ⟨b1, 0, none⟩), .pointer (some ⟨b1 + 1, 0, none⟩)], .func (.func 91) #[] #[.pointer (some ⟨b2, 0, none⟩), .pointer (some ⟨b2 + 1, 0, none⟩)]] 88))
    refine wpAnyH_ready (rs := [11]) (by kernel_rfl) (by simp) ?_
    refine AllReadyH.cons rfl (fun K hK => ?_) AllReadyH.nil
    go_simp
    go_at_call 66
    refine (C.out _ _ _ _ (hv.on hH5.hb) hrow hp1 hq1 hp2 hq2).mono ?_
    rintro e w11 ⟨q3, c3, rfl, hen, hd11⟩
    go_wp2_with fail
    refine hK.out _ _ (hH5.on hd11) (fun hH6 => ?_)
    clear hK K
    replace kof := kof.on hd11
    replace hp1 := hp1.on hd11
    replace hq1 := hq1.on hd11
    replace hp2 := hp2.on hd11
    replace hq2 := hq2.on hd11
    replace hrow := hrow.on hd11
    refine wpAnyH_take (i := 12) (v := .agg #[.slice q3 L.length c3]) rfl (by kernel_rfl) (by kernel_rfl) (by kernel_rfl) (fun _ _ _ h => h) (yk_ext (by kernel_rfl) _ _ rfl (.tuple #[.agg #[.slice q3 L.length c3], .int .i64 x]) (by kernel_rfl) _ (fun _ _ => rfl)) hH6 ?_
    refine wpAnyH_take (i := 13) (v := .int .i64 x) rfl (by kernel_rfl) (by kernel_rfl) (by kernel_rfl) (fun _ _ _ h => h) (yk_ext (by kernel_rfl) _ _ rfl (.tuple #[.agg #[.slice q3 L.length c3], .int .i64 x]) (by kernel_rfl) _ (fun _ _ => rfl)) hH6 ?_
    refine wpAnyH_ready (rs := [14]) (by kernel_rfl) (by simp) ?_
    refine AllReadyH.cons rfl (fun K hK => ?_) AllReadyH.nil
    rw [if_pos (by kernel_rfl)]
    refine wp_store_mid _ _ _ rfl (w.heap.size + 1 + 1) 0 [.slice q3 L.length c3].toArray (by kernel_rfl) (by kernel_rfl) (kof.there (Nat.le_refl 1)) szD (by simp [Value.oneCell']) ?_
    simp only [Act.put, List.getElem_toArray, List.getElem_cons_zero, List.getElem_cons_succ]
    refine hK.out _ _ (hH6.put (ne2 (by omega) (by omega)) (by omega) _) (fun hH7 => ?_)
    clear hK K
    refine wpAnyH_take (i := 15) (v := .int .i64 x) rfl (by kernel_rfl) (by kernel_rfl) (by kernel_rfl) (fun _ _ _ h => h) (yk_assign (by kernel_rfl) _ rfl _ (by kernel_rfl)) hH7 ?_
    refine wpAnyH_done (by kernel_rfl) ?_ _
    have hbf := hH7.hb
    have kf := setCells_all kof [.slice q3 L.length c3] rfl
    have hef := hen.box kof (.slice q3 L.length c3)
    change Exit.then _ _ _ _ (w11.setCells (w.heap.size + 1 + 1) 0 [.slice q3 L.length c3])
    change Ents (w11.setCells (w.heap.size + 1 + 1) 0 [.slice q3 L.length c3]) _ _ at hef
    generalize w11.setCells (w.heap.size + 1 + 1) 0 [.slice q3 L.length c3] = Y at *
    clear hen kof
    go_wp2_with fail
    refine bodyPost_ret (v := .tuple #[.agg #[.slice q3 L.length c3], .int .i64 x]) ?hr ?hd ?hp
    case hr => exact results_ct Tryz.results33 _ _ (w.heap.size + 1 + 1) 27 #[.slice q3 L.length c3] (0, 0) _ (by kernel_rfl) kf Tryz.underlying27 rfl szD _ (by kernel_rfl)
    case hd => rfl
    case hp => exact ⟨q3, c3, rfl, hef, hbf⟩
set_option maxHeartbeats 8000000 in
set_option maxRecDepth 100000 in
theorem bmove_any (v : Value) (E : List Ent) (a b d : ByteArray) (n : Nat) (w : World) (hv : Ents w v E) (hs : Srt E) (hl : E.length ≤ 1800) (hn : W256 n) :
    Calls Tryz.prog 70 #[.agg #[v], .string a, .string b, .string d, .agg #[.int .u64 (limb n 0), .int .u64 (limb n 1), .int .u64 (limb n 2), .int .u64 (limb n 3)]] w fun e w' => ∃ q cap, e = .returned (.tuple #[.agg #[.slice q (moveL E a b d n).2.length cap], .int .i64 (moveL E a b d n).1]) ∧ Ents w' (.slice q (moveL E a b d n).2.length cap) (moveL E a b d n).2 ∧ Below w.heap.size w w' := by
  obtain ⟨q, cap, rfl⟩ := hv.len
  rcases hR : moveL E a b d n with ⟨x, L⟩
  have hb0 := BW_alloc (BW_alloc (BW_alloc (BW_refl w) (.cells #[.slice q E.length cap] 27)) (.cells #[.int .u64 (limb n 0), .int .u64 (limb n 1), .int .u64 (limb n 2), .int .u64 (limb n 3)] 31)) (.cells #[.slice none 0 0] 27)
  have kd := ((blk1 w 27 #[.slice q E.length cap]).alloc (.cells #[.int .u64 (limb n 0), .int .u64 (limb n 1), .int .u64 (limb n 2), .int .u64 (limb n 3)] 31)).alloc (.cells #[.slice none 0 0] 27)
  have kn := (blk2 w (.cells #[.slice q E.length cap] 27) 31 #[.int .u64 (limb n 0), .int .u64 (limb n 1), .int .u64 (limb n 2), .int .u64 (limb n 3)]).alloc (.cells #[.slice none 0 0] 27)
  have ko := blk3 w (.cells #[.slice q E.length cap] 27) (.cells #[.int .u64 (limb n 0), .int .u64 (limb n 1), .int .u64 (limb n 2), .int .u64 (limb n 3)] 31) 27 #[.slice none 0 0]
  go_enter Tryz.func70, Tryz.ntmps70
  go_upto_region 1 with (fail)
  change Code.wp _ _ _ _ (((w.alloc (.cells #[.slice q E.length cap] 27)).alloc (.cells #[.int .u64 (limb n 0), .int .u64 (limb n 1), .int .u64 (limb n 2), .int .u64 (limb n 3)] 31)).alloc (.cells #[.slice none 0 0] 27))
  generalize ((w.alloc (.cells #[.slice q E.length cap] 27)).alloc (.cells #[.int .u64 (limb n 0), .int .u64 (limb n 1), .int .u64 (limb n 2), .int .u64 (limb n 3)] 31)).alloc (.cells #[.slice none 0 0] 27) = W at *
  have cn := fun i => kn.cell i
  go_wp2_with fail
  have kr := blk1 W 9 #[.string a, .string b]
  refine (may_two a b d n W.heap.size _ hn kr).mono ?_
  rintro e w1 ⟨rfl, hb1⟩
  have hBW := BW_on (BW_alloc (BW_refl W) (.cells #[.string a, .string b] 9)) hb1
  replace hb0 := BW_on hb0 hBW
  replace kd := kd.on hBW
  replace kn := kn.on hBW
  replace ko := ko.on hBW
  clear kr hb1 hBW cn
  cases hm : may2 a b d n
  · obtain ⟨rfl, rfl⟩ := Prod.mk.inj ((show moveL E a b d n = (1, []) from if_neg (by rw [hm]; exact Bool.false_ne_true)).symm.trans hR)
    clear hR hm
    have co := fun i => ko.cell i
    have fo := fun i => ko.free i
    have hbf := hb0.setCell (p := ⟨w.heap.size + 1 + 1, 0, none⟩) (by show w.heap.size ≤ w.heap.size + 1 + 1; omega) (.slice none 0 0)
    go_wp2_with fail
    have hcc := fun i => (ko.set_ 0 (.slice none 0 0)).cell i
    refine bodyPost_ret (v := .tuple #[.agg #[.slice none 0 0], .int .i64 1]) (by simp [results, Tryz.results70, go_sem, hcc]) rfl ⟨none, 0, rfl, Ents.nil _, hbf⟩
  · obtain ⟨_, hna, hnb, hnd⟩ := may2_pos hm
    have za := okName_size hna
    have zb := okName_size hnb
    have zd := okDn_size hnd
    rcases hD : thenL (lessL E (keyB a d) n) (fun L => moreL L (keyB b d) n) with ⟨y, M⟩
    have hcase : (x = y ∧ L = M ∧ ((a.toList == b.toList) = false ∨ ((a.toList == b.toList) = true ∧ y = 16))) ∨ (x = 0 ∧ L = E ∧ (a.toList == b.toList) = true ∧ y = 0) := by
      by_cases hab : a = b
      · subst hab
        have hbq : (a.toList == a.toList) = true := beq_self_eq_true _
        rcases move_self hs hm with ⟨_, h2, h3⟩ | ⟨h2, h3⟩
        · obtain ⟨rfl, rfl⟩ := Prod.mk.inj (h2.symm.trans hR)
          rw [hD] at h3
          exact .inr ⟨rfl, rfl, hbq, h3⟩
        · obtain ⟨rfl, rfl⟩ := Prod.mk.inj (h2.symm.trans hR)
          obtain ⟨rfl, rfl⟩ := Prod.mk.inj (h3.symm.trans hD)
          exact .inl ⟨rfl, rfl, .inr ⟨hbq, rfl⟩⟩
      · obtain ⟨rfl, rfl⟩ := Prod.mk.inj (((move_eq hs hm hab).symm.trans hD).symm.trans hR)
        exact .inl ⟨rfl, rfl, .inl (by rw [beq_kl]; exact decide_eq_false hab)⟩
    have Hcase := Lib.hid hcase
    clear hcase
    go_upto_region 3 with (fail)
    have hszd := kd.lt
    have hszn := kn.lt
    have hszo := ko.lt
    have hvw := hv.on hb0
    have zk := keyB_size a d
    have zt := keyB_size b d
    have C := fun g b1 b2 w hv hr hp1 hq1 hp2 hq2 => does_lm (.slice q E.length cap) E (keyB a d) (keyB b d) n n b1 b2 g w hv hs hl (by omega) (by omega) hn hn hr hp1 hq1 hp2 hq2
    rw [hD] at C
    have C := Lib.hid C
    clear hR hD
    refine wp_region_held_drew (S := BxS w1 [(w.heap.size, 27, #[.slice q E.length cap]), (w.heap.size + 1, 31, #[.int .u64 (limb n 0), .int .u64 (limb n 1), .int .u64 (limb n 2), .int .u64 (limb n 3)])]) (by kernel_rfl) (((BxS.nil (BW_refl w1)).cons kn).cons kd).drew (fun hH0 => ?_)
    refine wpAnyH_take (i := 0) (v := .agg #[.slice q E.length cap]) rfl (by kernel_rfl) (by kernel_rfl) (by kernel_rfl) (fun _ _ _ h => h) (yk_load (by kernel_rfl) _ _ rfl (.pointer (some ⟨w.heap.size, 0, none⟩)) (by kernel_rfl) _ (fun w' hw' => by have c0 := (hw'.bl _ (.head _)).cell 0; go_simp)) hH0 ?_
    refine wpAnyH_take (i := 1) (v := .string a) rfl (by kernel_rfl) (by kernel_rfl) (by kernel_rfl) (fun _ _ _ h => h) (yk_move (by kernel_rfl) _ rfl _ (by kernel_rfl)) hH0 ?_
    refine wpAnyH_take (i := 2) (v := .string d) rfl (by kernel_rfl) (by kernel_rfl) (by kernel_rfl) (fun _ _ _ h => h) (yk_move (by kernel_rfl) _ rfl _ (by kernel_rfl)) hH0 ?_
    refine wpAnyH_take (i := 4) (v := .agg #[.int .u64 (limb n 0), .int .u64 (limb n 1), .int .u64 (limb n 2), .int .u64 (limb n 3)]) rfl (by kernel_rfl) (by kernel_rfl) (by kernel_rfl) (fun _ _ _ h => h) (yk_load (by kernel_rfl) _ _ rfl (.pointer (some ⟨(w.heap.size + 1), 0, none⟩)) (by kernel_rfl) _ (fun w' hw' => by have c0 := (hw'.bl _ (.tail _ (.head _))).cell 0; have c1 := (hw'.bl _ (.tail _ (.head _))).cell 1; have c2 := (hw'.bl _ (.tail _ (.head _))).cell 2; have c3 := (hw'.bl _ (.tail _ (.head _))).cell 3; go_simp)) hH0 ?_
    refine wpAnyH_take (i := 6) (v := .string b) rfl (by kernel_rfl) (by kernel_rfl) (by kernel_rfl) (fun _ _ _ h => h) (yk_move (by kernel_rfl) _ rfl _ (by kernel_rfl)) hH0 ?_
    refine wpAnyH_take (i := 7) (v := .string d) rfl (by kernel_rfl) (by kernel_rfl) (by kernel_rfl) (fun _ _ _ h => h) (yk_move (by kernel_rfl) _ rfl _ (by kernel_rfl)) hH0 ?_
    refine wpAnyH_take (i := 9) (v := .agg #[.int .u64 (limb n 0), .int .u64 (limb n 1), .int .u64 (limb n 2), .int .u64 (limb n 3)]) rfl (by kernel_rfl) (by kernel_rfl) (by kernel_rfl) (fun _ _ _ h => h) (yk_load (by kernel_rfl) _ _ rfl (.pointer (some ⟨(w.heap.size + 1), 0, none⟩)) (by kernel_rfl) _ (fun w' hw' => by have c0 := (hw'.bl _ (.tail _ (.head _))).cell 0; have c1 := (hw'.bl _ (.tail _ (.head _))).cell 1; have c2 := (hw'.bl _ (.tail _ (.head _))).cell 2; have c3 := (hw'.bl _ (.tail _ (.head _))).cell 3; go_simp)) hH0 ?_
    refine wpAnyH_ready (rs := [3, 16]) (by kernel_rfl) (by simp) ?_
    refine AllReadyH.cons rfl (fun K hK => ?_) (AllReadyH.cons rfl (fun K hK => ?_) (AllReadyH.nil))
    · go_simp
      go_at_call 69
      refine (bkey_any a d _ (by omega) (by omega)).mono ?_
      rintro e w3 ⟨rfl, hd3⟩
      go_wp2_with fail
      refine hK.out _ _ (hH0.on hd3) (fun hH1 => ?_)
      clear hK K
      
      refine wpAnyH_ready (rs := [5, 16]) (by kernel_rfl) (by simp) ?_
      refine AllReadyH.cons rfl (fun K hK => ?_) (AllReadyH.cons rfl (fun K hK => ?_) (AllReadyH.nil))
      · go_simp
        go_at_call 67
        refine (less_made (keyB a d) n _).mono ?_
        rintro e w5 ⟨b1, rfl, hp1, hq1, hd5⟩
        go_wp2_with fail
        refine hK.out _ _ (hH1.on hd5) (fun hH2 => ?_)
        clear hK K
        
        refine wpAnyH_ready (rs := [8, 16]) (by kernel_rfl) (by simp) ?_
        refine AllReadyH.cons rfl (fun K hK => ?_) (AllReadyH.cons rfl (fun K hK => ?_) (AllReadyH.nil))
        · go_simp
          go_at_call 69
          refine (bkey_any b d _ (by omega) (by omega)).mono ?_
          rintro e w8 ⟨rfl, hd8⟩
          go_wp2_with fail
          refine hK.out _ _ (hH2.on hd8) (fun hH3 => ?_)
          clear hK K
          replace hp1 := hp1.on hd8
          replace hq1 := hq1.on hd8
          refine wpAnyH_ready (rs := [10, 16]) (by kernel_rfl) (by simp) ?_
          refine AllReadyH.cons rfl (fun K hK => ?_) (AllReadyH.cons rfl (fun K hK => ?_) (AllReadyH.nil))
          · go_simp
            go_at_call 97
            refine (more_made (keyB b d) n _).mono ?_
            rintro e w10 ⟨b2, rfl, hp2, hq2, hd10⟩
            go_wp2_with fail
            refine hK.out _ _ (hH3.on hd10) (fun hH4 => ?_)
            clear hK K
            replace hp1 := hp1.on hd10
            replace hq1 := hq1.on hd10
            refine wpAnyH_ready (rs := [11, 16]) (by kernel_rfl) (by simp) ?_
            refine AllReadyH.cons rfl (fun K hK => ?_) (AllReadyH.cons rfl (fun K hK => ?_) (AllReadyH.nil))
            · have hrow : Blk (w10.alloc (.cells #[.func (.func 91) #[] #[.pointer (some ⟨b1, 0, none⟩), .pointer (some ⟨b1 + 1, 0, none⟩)], .func (.func 114) #[] #[.pointer (some ⟨b2, 0, none⟩), .pointer (some ⟨b2 + 1, 0, none⟩)]] 88)) (w10.heap.size) 88 #[.func (.func 91) #[] #[.pointer (some ⟨b1, 0, none⟩), .pointer (some ⟨b1 + 1, 0, none⟩)], .func (.func 114) #[] #[.pointer (some ⟨b2, 0, none⟩), .pointer (some ⟨b2 + 1, 0, none⟩)]] := blk1 _ _ _
              go_simp
              refine hK.out _ _ (hH4.on (BW_alloc (BW_refl _) _)) (fun hH5 => ?_)
              clear hK K
              replace hp1 := hp1.on (BW_alloc (BW_refl _) (.cells #[.func (.func 91) #[] #[.pointer (some ⟨b1, 0, none⟩), .pointer (some ⟨b1 + 1, 0, none⟩)], .func (.func 114) #[] #[.pointer (some ⟨b2, 0, none⟩), .pointer (some ⟨b2 + 1, 0, none⟩)]] 88))
              replace hq1 := hq1.on (BW_alloc (BW_refl _) (.cells #[.func (.func 91) #[] #[.pointer (some ⟨b1, 0, none⟩), .pointer (some ⟨b1 + 1, 0, none⟩)], .func (.func 114) #[] #[.pointer (some ⟨b2, 0, none⟩), .pointer (some ⟨b2 + 1, 0, none⟩)]] 88))
              replace hp2 := hp2.on (BW_alloc (BW_refl _) (.cells #[.func (.func 91) #[] #[.pointer (some ⟨b1, 0, none⟩), .pointer (some ⟨b1 + 1, 0, none⟩)], .func (.func 114) #[] #[.pointer (some ⟨b2, 0, none⟩), .pointer (some ⟨b2 + 1, 0, none⟩)]] 88))
              replace hq2 := hq2.on (BW_alloc (BW_refl _) (.cells #[.func (.func 91) #[] #[.pointer (some ⟨b1, 0, none⟩), .pointer (some ⟨b1 + 1, 0, none⟩)], .func (.func 114) #[] #[.pointer (some ⟨b2, 0, none⟩), .pointer (some ⟨b2 + 1, 0, none⟩)]] 88))
              refine wpAnyH_ready (rs := [12, 16]) (by kernel_rfl) (by simp) ?_
              refine AllReadyH.cons rfl (fun K hK => ?_) (AllReadyH.cons rfl (fun K hK => ?_) (AllReadyH.nil))
              · go_simp
                go_at_call 66
                refine (C.out _ _ _ _ (hvw.on hH5.hb) hrow hp1 hq1 hp2 hq2).mono ?_
                rintro e w12 ⟨q3, c3, rfl, hen, hd12⟩
                go_wp2_with fail
                refine hK.out _ _ (hH5.on hd12) (fun hH6 => ?_)
                clear hK K
                replace hp1 := hp1.on hd12
                replace hq1 := hq1.on hd12
                replace hp2 := hp2.on hd12
                replace hq2 := hq2.on hd12
                replace hrow := hrow.on hd12
                refine wpAnyH_take (i := 13) (v := .tuple #[.agg #[.slice q3 M.length c3], .int .i64 y]) rfl (by kernel_rfl) (by kernel_rfl) (by kernel_rfl) (fun _ _ _ h => h) (yk_move (by kernel_rfl) _ rfl _ (by kernel_rfl)) hH6 ?_
                refine wpAnyH_take (i := 14) (v := .agg #[.slice q3 M.length c3]) rfl (by kernel_rfl) (by kernel_rfl) (by kernel_rfl) (fun _ _ _ h => h) (yk_ext (by kernel_rfl) _ _ rfl (.tuple #[.agg #[.slice q3 M.length c3], .int .i64 y]) (by kernel_rfl) _ (fun _ _ => rfl)) hH6 ?_
                refine wpAnyH_take (i := 15) (v := .int .i64 y) rfl (by kernel_rfl) (by kernel_rfl) (by kernel_rfl) (fun _ _ _ h => h) (yk_ext (by kernel_rfl) _ _ rfl (.tuple #[.agg #[.slice q3 M.length c3], .int .i64 y]) (by kernel_rfl) _ (fun _ _ => rfl)) hH6 ?_
                have kz : Blk (w12.alloc (.cells #[.slice none 0 0] 27)) (w12.heap.size) 27 #[.slice none 0 0] := blk1 w12 _ _
                have hzl : w1.heap.size ≤ w12.heap.size := by first | exact hH6.hb.size | (have := hH6.hb.size; simpa using this)
                refine wpAnyH_ready (rs := [16]) (by kernel_rfl) (by simp) ?_
                refine AllReadyH.cons rfl (fun K hK => ?_) AllReadyH.nil
                go_simp
                refine hK.out _ _ (hH6.on (BW_alloc (BW_refl _) _)) (fun hH7 => ?_)
                clear hK K
                replace hp1 := hp1.on (BW_alloc (BW_refl _) (.cells #[.slice none 0 0] 27))
                replace hq1 := hq1.on (BW_alloc (BW_refl _) (.cells #[.slice none 0 0] 27))
                replace hp2 := hp2.on (BW_alloc (BW_refl _) (.cells #[.slice none 0 0] 27))
                replace hq2 := hq2.on (BW_alloc (BW_refl _) (.cells #[.slice none 0 0] 27))
                replace hrow := hrow.on (BW_alloc (BW_refl _) (.cells #[.slice none 0 0] 27))
                replace hen := hen.on (BW_alloc (BW_refl _) (.cells #[.slice none 0 0] 27))
                refine wpAnyH_ready (rs := [17]) (by kernel_rfl) (by simp) ?_
                refine AllReadyH.cons rfl (fun K hK => ?_) AllReadyH.nil
                rw [if_pos (by kernel_rfl)]
                refine wp_store_mid _ _ _ rfl w12.heap.size 0 [.slice q3 M.length c3].toArray (by kernel_rfl) (by kernel_rfl) (kz.there (Nat.le_refl 1)) szD (by simp [Value.oneCell']) ?_
                simp only [Act.put, List.getElem_toArray, List.getElem_cons_zero, List.getElem_cons_succ]
                refine hK.out _ _ (hH7.put (ne2 (by omega) (by omega)) (by omega) _) (fun hH8 => ?_)
                clear hK K
                refine wpAnyH_take (i := 18) (v := .int .i64 y) rfl (by kernel_rfl) (by kernel_rfl) (by kernel_rfl) (fun _ _ _ h => h) (yk_assign (by kernel_rfl) _ rfl _ (by kernel_rfl)) hH8 ?_
                refine wpAnyH_done (by kernel_rfl) ?_ _
                have hB := hH8.hb
                have hef := hen.box kz (.slice q3 M.length c3)
                replace kz := setCells_all kz [.slice q3 M.length c3] rfl
                change Exit.then _ _ _ _ ((w12.alloc (.cells #[.slice none 0 0] 27)).setCells (w12.heap.size) 0 [.slice q3 M.length c3])
                change Ents ((w12.alloc (.cells #[.slice none 0 0] 27)).setCells (w12.heap.size) 0 [.slice q3 M.length c3]) _ _ at hef
                generalize (w12.alloc (.cells #[.slice none 0 0] 27)).setCells (w12.heap.size) 0 [.slice q3 M.length c3] = Z at *
                generalize w12.heap.size = gz at *
                clear hH0 hH1 hH2 hH3 hH4 hH5 hH6 hH7 hH8 hen hrow hp1 hq1 hp2 hq2 hd3 hd5 hd8 hd10 hd12
                replace kd := kd.on hB
                replace ko := ko.on hB
                replace hb0 := BW_on hb0 hB
                have cd := fun i => kd.cell i
                have cz := fun i => kz.cell i
                have co := fun i => ko.cell i
                have fo := fun i => ko.free i
                rcases Hcase.out with ⟨rfl, rfl, hbq | ⟨hbq, rfl⟩⟩ | ⟨rfl, rfl, hbq, rfl⟩
                · have hbf := hb0.setCell (p := ⟨w.heap.size + 1 + 1, 0, none⟩) (by show w.heap.size ≤ w.heap.size + 1 + 1; omega) (.slice q3 L.length c3)
                  have hfe := (hef).box ko (.slice q3 L.length c3)
                  go_wp2_with fail
                  have hcc := fun i => (ko.set_ 0 (.slice q3 L.length c3)).cell i
                  refine bodyPost_ret (v := .tuple #[.agg #[.slice q3 L.length c3], .int .i64 x]) (by simp [results, Tryz.results70, go_sem, hcc]) rfl ⟨_, _, rfl, hfe, hbf⟩
                · have hbf := hb0.setCell (p := ⟨w.heap.size + 1 + 1, 0, none⟩) (by show w.heap.size ≤ w.heap.size + 1 + 1; omega) (.slice q3 L.length c3)
                  have hfe := (hef).box ko (.slice q3 L.length c3)
                  go_wp2_with fail
                  have hcc := fun i => (ko.set_ 0 (.slice q3 L.length c3)).cell i
                  refine bodyPost_ret (v := .tuple #[.agg #[.slice q3 L.length c3], .int .i64 16]) (by simp [results, Tryz.results70, go_sem, hcc]) rfl ⟨_, _, rfl, hfe, hbf⟩
                · have hbf := hb0.setCell (p := ⟨w.heap.size + 1 + 1, 0, none⟩) (by show w.heap.size ≤ w.heap.size + 1 + 1; omega) (.slice q L.length cap)
                  have hfe := (hv.on hb0).box ko (.slice q L.length cap)
                  go_wp2_with fail
                  have hcc := fun i => (ko.set_ 0 (.slice q L.length cap)).cell i
                  refine bodyPost_ret (v := .tuple #[.agg #[.slice q L.length cap], .int .i64 0]) (by simp [results, Tryz.results70, go_sem, hcc]) rfl ⟨_, _, rfl, hfe, hbf⟩
              · have kz : Blk ((w10.alloc (.cells #[.func (.func 91) #[] #[.pointer (some ⟨b1, 0, none⟩), .pointer (some ⟨b1 + 1, 0, none⟩)], .func (.func 114) #[] #[.pointer (some ⟨b2, 0, none⟩), .pointer (some ⟨b2 + 1, 0, none⟩)]] 88)).alloc (.cells #[.slice none 0 0] 27)) ((w10.heap.size + 1)) 27 #[.slice none 0 0] := blk2 w10 _ _ _
                have hzl : w1.heap.size ≤ (w10.heap.size + 1) := by first | exact hH5.hb.size | (have := hH5.hb.size; simpa using this)
                go_simp
                refine hK.out _ _ (hH5.on (BW_alloc (BW_refl _) _)) (fun hH6 => ?_)
                clear hK K
                replace hp1 := hp1.on (BW_alloc (BW_refl _) (.cells #[.slice none 0 0] 27))
                replace hq1 := hq1.on (BW_alloc (BW_refl _) (.cells #[.slice none 0 0] 27))
                replace hp2 := hp2.on (BW_alloc (BW_refl _) (.cells #[.slice none 0 0] 27))
                replace hq2 := hq2.on (BW_alloc (BW_refl _) (.cells #[.slice none 0 0] 27))
                replace hrow := hrow.on (BW_alloc (BW_refl _) (.cells #[.slice none 0 0] 27))
                refine wpAnyH_ready (rs := [12]) (by kernel_rfl) (by simp) ?_
                refine AllReadyH.cons rfl (fun K hK => ?_) AllReadyH.nil
                go_simp
                go_at_call 66
                refine (C.out _ _ _ _ (hvw.on hH6.hb) hrow hp1 hq1 hp2 hq2).mono ?_
                rintro e w12 ⟨q3, c3, rfl, hen, hd12⟩
                go_wp2_with fail
                refine hK.out _ _ (hH6.on hd12) (fun hH7 => ?_)
                clear hK K
                replace hp1 := hp1.on hd12
                replace hq1 := hq1.on hd12
                replace hp2 := hp2.on hd12
                replace hq2 := hq2.on hd12
                replace hrow := hrow.on hd12
                replace kz := kz.on hd12
                refine wpAnyH_take (i := 13) (v := .tuple #[.agg #[.slice q3 M.length c3], .int .i64 y]) rfl (by kernel_rfl) (by kernel_rfl) (by kernel_rfl) (fun _ _ _ h => h) (yk_move (by kernel_rfl) _ rfl _ (by kernel_rfl)) hH7 ?_
                refine wpAnyH_take (i := 14) (v := .agg #[.slice q3 M.length c3]) rfl (by kernel_rfl) (by kernel_rfl) (by kernel_rfl) (fun _ _ _ h => h) (yk_ext (by kernel_rfl) _ _ rfl (.tuple #[.agg #[.slice q3 M.length c3], .int .i64 y]) (by kernel_rfl) _ (fun _ _ => rfl)) hH7 ?_
                refine wpAnyH_take (i := 15) (v := .int .i64 y) rfl (by kernel_rfl) (by kernel_rfl) (by kernel_rfl) (fun _ _ _ h => h) (yk_ext (by kernel_rfl) _ _ rfl (.tuple #[.agg #[.slice q3 M.length c3], .int .i64 y]) (by kernel_rfl) _ (fun _ _ => rfl)) hH7 ?_
                refine wpAnyH_ready (rs := [17]) (by kernel_rfl) (by simp) ?_
                refine AllReadyH.cons rfl (fun K hK => ?_) AllReadyH.nil
                rw [if_pos (by kernel_rfl)]
                refine wp_store_mid _ _ _ rfl (w10.heap.size + 1) 0 [.slice q3 M.length c3].toArray (by kernel_rfl) (by kernel_rfl) (kz.there (Nat.le_refl 1)) szD (by simp [Value.oneCell']) ?_
                simp only [Act.put, List.getElem_toArray, List.getElem_cons_zero, List.getElem_cons_succ]
                refine hK.out _ _ (hH7.put (ne2 (by omega) (by omega)) (by omega) _) (fun hH8 => ?_)
                clear hK K
                refine wpAnyH_take (i := 18) (v := .int .i64 y) rfl (by kernel_rfl) (by kernel_rfl) (by kernel_rfl) (fun _ _ _ h => h) (yk_assign (by kernel_rfl) _ rfl _ (by kernel_rfl)) hH8 ?_
                refine wpAnyH_done (by kernel_rfl) ?_ _
                have hB := hH8.hb
                have hef := hen.box kz (.slice q3 M.length c3)
                replace kz := setCells_all kz [.slice q3 M.length c3] rfl
                change Exit.then _ _ _ _ (w12.setCells ((w10.heap.size + 1)) 0 [.slice q3 M.length c3])
                change Ents (w12.setCells ((w10.heap.size + 1)) 0 [.slice q3 M.length c3]) _ _ at hef
                generalize w12.setCells ((w10.heap.size + 1)) 0 [.slice q3 M.length c3] = Z at *
                generalize w10.heap.size + 1 = gz at *
                clear hH0 hH1 hH2 hH3 hH4 hH5 hH6 hH7 hH8 hen hrow hp1 hq1 hp2 hq2 hd3 hd5 hd8 hd10 hd12
                replace kd := kd.on hB
                replace ko := ko.on hB
                replace hb0 := BW_on hb0 hB
                have cd := fun i => kd.cell i
                have cz := fun i => kz.cell i
                have co := fun i => ko.cell i
                have fo := fun i => ko.free i
                rcases Hcase.out with ⟨rfl, rfl, hbq | ⟨hbq, rfl⟩⟩ | ⟨rfl, rfl, hbq, rfl⟩
                · have hbf := hb0.setCell (p := ⟨w.heap.size + 1 + 1, 0, none⟩) (by show w.heap.size ≤ w.heap.size + 1 + 1; omega) (.slice q3 L.length c3)
                  have hfe := (hef).box ko (.slice q3 L.length c3)
                  go_wp2_with fail
                  have hcc := fun i => (ko.set_ 0 (.slice q3 L.length c3)).cell i
                  refine bodyPost_ret (v := .tuple #[.agg #[.slice q3 L.length c3], .int .i64 x]) (by simp [results, Tryz.results70, go_sem, hcc]) rfl ⟨_, _, rfl, hfe, hbf⟩
                · have hbf := hb0.setCell (p := ⟨w.heap.size + 1 + 1, 0, none⟩) (by show w.heap.size ≤ w.heap.size + 1 + 1; omega) (.slice q3 L.length c3)
                  have hfe := (hef).box ko (.slice q3 L.length c3)
                  go_wp2_with fail
                  have hcc := fun i => (ko.set_ 0 (.slice q3 L.length c3)).cell i
                  refine bodyPost_ret (v := .tuple #[.agg #[.slice q3 L.length c3], .int .i64 16]) (by simp [results, Tryz.results70, go_sem, hcc]) rfl ⟨_, _, rfl, hfe, hbf⟩
                · have hbf := hb0.setCell (p := ⟨w.heap.size + 1 + 1, 0, none⟩) (by show w.heap.size ≤ w.heap.size + 1 + 1; omega) (.slice q L.length cap)
                  have hfe := (hv.on hb0).box ko (.slice q L.length cap)
                  go_wp2_with fail
                  have hcc := fun i => (ko.set_ 0 (.slice q L.length cap)).cell i
                  refine bodyPost_ret (v := .tuple #[.agg #[.slice q L.length cap], .int .i64 0]) (by simp [results, Tryz.results70, go_sem, hcc]) rfl ⟨_, _, rfl, hfe, hbf⟩
            · have kz : Blk (w10.alloc (.cells #[.slice none 0 0] 27)) (w10.heap.size) 27 #[.slice none 0 0] := blk1 w10 _ _
              have hzl : w1.heap.size ≤ w10.heap.size := by first | exact hH4.hb.size | (have := hH4.hb.size; simpa using this)
              go_simp
              refine hK.out _ _ (hH4.on (BW_alloc (BW_refl _) _)) (fun hH5 => ?_)
              clear hK K
              replace hp1 := hp1.on (BW_alloc (BW_refl _) (.cells #[.slice none 0 0] 27))
              replace hq1 := hq1.on (BW_alloc (BW_refl _) (.cells #[.slice none 0 0] 27))
              replace hp2 := hp2.on (BW_alloc (BW_refl _) (.cells #[.slice none 0 0] 27))
              replace hq2 := hq2.on (BW_alloc (BW_refl _) (.cells #[.slice none 0 0] 27))
              have hrow : Blk ((w10.alloc (.cells #[.slice none 0 0] 27)).alloc (.cells #[.func (.func 91) #[] #[.pointer (some ⟨b1, 0, none⟩), .pointer (some ⟨b1 + 1, 0, none⟩)], .func (.func 114) #[] #[.pointer (some ⟨b2, 0, none⟩), .pointer (some ⟨b2 + 1, 0, none⟩)]] 88)) (w10.heap.size + 1) 88 #[.func (.func 91) #[] #[.pointer (some ⟨b1, 0, none⟩), .pointer (some ⟨b1 + 1, 0, none⟩)], .func (.func 114) #[] #[.pointer (some ⟨b2, 0, none⟩), .pointer (some ⟨b2 + 1, 0, none⟩)]] := blk2 w10 _ _ _
              refine wpAnyH_ready (rs := [11]) (by kernel_rfl) (by simp) ?_
              refine AllReadyH.cons rfl (fun K hK => ?_) AllReadyH.nil
              go_simp
              refine hK.out _ _ (hH5.on (BW_alloc (BW_refl _) _)) (fun hH6 => ?_)
              clear hK K
              replace hp1 := hp1.on (BW_alloc (BW_refl _) (.cells #[.func (.func 91) #[] #[.pointer (some ⟨b1, 0, none⟩), .pointer (some ⟨b1 + 1, 0, none⟩)], .func (.func 114) #[] #[.pointer (some ⟨b2, 0, none⟩), .pointer (some ⟨b2 + 1, 0, none⟩)]] 88))
              replace hq1 := hq1.on (BW_alloc (BW_refl _) (.cells #[.func (.func 91) #[] #[.pointer (some ⟨b1, 0, none⟩), .pointer (some ⟨b1 + 1, 0, none⟩)], .func (.func 114) #[] #[.pointer (some ⟨b2, 0, none⟩), .pointer (some ⟨b2 + 1, 0, none⟩)]] 88))
              replace hp2 := hp2.on (BW_alloc (BW_refl _) (.cells #[.func (.func 91) #[] #[.pointer (some ⟨b1, 0, none⟩), .pointer (some ⟨b1 + 1, 0, none⟩)], .func (.func 114) #[] #[.pointer (some ⟨b2, 0, none⟩), .pointer (some ⟨b2 + 1, 0, none⟩)]] 88))
              replace hq2 := hq2.on (BW_alloc (BW_refl _) (.cells #[.func (.func 91) #[] #[.pointer (some ⟨b1, 0, none⟩), .pointer (some ⟨b1 + 1, 0, none⟩)], .func (.func 114) #[] #[.pointer (some ⟨b2, 0, none⟩), .pointer (some ⟨b2 + 1, 0, none⟩)]] 88))
              replace kz := kz.on (BW_alloc (BW_refl _) (.cells #[.func (.func 91) #[] #[.pointer (some ⟨b1, 0, none⟩), .pointer (some ⟨b1 + 1, 0, none⟩)], .func (.func 114) #[] #[.pointer (some ⟨b2, 0, none⟩), .pointer (some ⟨b2 + 1, 0, none⟩)]] 88))
              refine wpAnyH_ready (rs := [12]) (by kernel_rfl) (by simp) ?_
              refine AllReadyH.cons rfl (fun K hK => ?_) AllReadyH.nil
              go_simp
              go_at_call 66
              refine (C.out _ _ _ _ (hvw.on hH6.hb) hrow hp1 hq1 hp2 hq2).mono ?_
              rintro e w12 ⟨q3, c3, rfl, hen, hd12⟩
              go_wp2_with fail
              refine hK.out _ _ (hH6.on hd12) (fun hH7 => ?_)
              clear hK K
              replace hp1 := hp1.on hd12
              replace hq1 := hq1.on hd12
              replace hp2 := hp2.on hd12
              replace hq2 := hq2.on hd12
              replace hrow := hrow.on hd12
              replace kz := kz.on hd12
              refine wpAnyH_take (i := 13) (v := .tuple #[.agg #[.slice q3 M.length c3], .int .i64 y]) rfl (by kernel_rfl) (by kernel_rfl) (by kernel_rfl) (fun _ _ _ h => h) (yk_move (by kernel_rfl) _ rfl _ (by kernel_rfl)) hH7 ?_
              refine wpAnyH_take (i := 14) (v := .agg #[.slice q3 M.length c3]) rfl (by kernel_rfl) (by kernel_rfl) (by kernel_rfl) (fun _ _ _ h => h) (yk_ext (by kernel_rfl) _ _ rfl (.tuple #[.agg #[.slice q3 M.length c3], .int .i64 y]) (by kernel_rfl) _ (fun _ _ => rfl)) hH7 ?_
              refine wpAnyH_take (i := 15) (v := .int .i64 y) rfl (by kernel_rfl) (by kernel_rfl) (by kernel_rfl) (fun _ _ _ h => h) (yk_ext (by kernel_rfl) _ _ rfl (.tuple #[.agg #[.slice q3 M.length c3], .int .i64 y]) (by kernel_rfl) _ (fun _ _ => rfl)) hH7 ?_
              refine wpAnyH_ready (rs := [17]) (by kernel_rfl) (by simp) ?_
              refine AllReadyH.cons rfl (fun K hK => ?_) AllReadyH.nil
              rw [if_pos (by kernel_rfl)]
              refine wp_store_mid _ _ _ rfl w10.heap.size 0 [.slice q3 M.length c3].toArray (by kernel_rfl) (by kernel_rfl) (kz.there (Nat.le_refl 1)) szD (by simp [Value.oneCell']) ?_
              simp only [Act.put, List.getElem_toArray, List.getElem_cons_zero, List.getElem_cons_succ]
              refine hK.out _ _ (hH7.put (ne2 (by omega) (by omega)) (by omega) _) (fun hH8 => ?_)
              clear hK K
              refine wpAnyH_take (i := 18) (v := .int .i64 y) rfl (by kernel_rfl) (by kernel_rfl) (by kernel_rfl) (fun _ _ _ h => h) (yk_assign (by kernel_rfl) _ rfl _ (by kernel_rfl)) hH8 ?_
              refine wpAnyH_done (by kernel_rfl) ?_ _
              have hB := hH8.hb
              have hef := hen.box kz (.slice q3 M.length c3)
              replace kz := setCells_all kz [.slice q3 M.length c3] rfl
              change Exit.then _ _ _ _ (w12.setCells (w10.heap.size) 0 [.slice q3 M.length c3])
              change Ents (w12.setCells (w10.heap.size) 0 [.slice q3 M.length c3]) _ _ at hef
              generalize w12.setCells (w10.heap.size) 0 [.slice q3 M.length c3] = Z at *
              generalize w10.heap.size = gz at *
              clear hH0 hH1 hH2 hH3 hH4 hH5 hH6 hH7 hH8 hen hrow hp1 hq1 hp2 hq2 hd3 hd5 hd8 hd10 hd12
              replace kd := kd.on hB
              replace ko := ko.on hB
              replace hb0 := BW_on hb0 hB
              have cd := fun i => kd.cell i
              have cz := fun i => kz.cell i
              have co := fun i => ko.cell i
              have fo := fun i => ko.free i
              rcases Hcase.out with ⟨rfl, rfl, hbq | ⟨hbq, rfl⟩⟩ | ⟨rfl, rfl, hbq, rfl⟩
              · have hbf := hb0.setCell (p := ⟨w.heap.size + 1 + 1, 0, none⟩) (by show w.heap.size ≤ w.heap.size + 1 + 1; omega) (.slice q3 L.length c3)
                have hfe := (hef).box ko (.slice q3 L.length c3)
                go_wp2_with fail
                have hcc := fun i => (ko.set_ 0 (.slice q3 L.length c3)).cell i
                refine bodyPost_ret (v := .tuple #[.agg #[.slice q3 L.length c3], .int .i64 x]) (by simp [results, Tryz.results70, go_sem, hcc]) rfl ⟨_, _, rfl, hfe, hbf⟩
              · have hbf := hb0.setCell (p := ⟨w.heap.size + 1 + 1, 0, none⟩) (by show w.heap.size ≤ w.heap.size + 1 + 1; omega) (.slice q3 L.length c3)
                have hfe := (hef).box ko (.slice q3 L.length c3)
                go_wp2_with fail
                have hcc := fun i => (ko.set_ 0 (.slice q3 L.length c3)).cell i
                refine bodyPost_ret (v := .tuple #[.agg #[.slice q3 L.length c3], .int .i64 16]) (by simp [results, Tryz.results70, go_sem, hcc]) rfl ⟨_, _, rfl, hfe, hbf⟩
              · have hbf := hb0.setCell (p := ⟨w.heap.size + 1 + 1, 0, none⟩) (by show w.heap.size ≤ w.heap.size + 1 + 1; omega) (.slice q L.length cap)
                have hfe := (hv.on hb0).box ko (.slice q L.length cap)
                go_wp2_with fail
                have hcc := fun i => (ko.set_ 0 (.slice q L.length cap)).cell i
                refine bodyPost_ret (v := .tuple #[.agg #[.slice q L.length cap], .int .i64 0]) (by simp [results, Tryz.results70, go_sem, hcc]) rfl ⟨_, _, rfl, hfe, hbf⟩
          · have kz : Blk (w8.alloc (.cells #[.slice none 0 0] 27)) (w8.heap.size) 27 #[.slice none 0 0] := blk1 w8 _ _
            have hzl : w1.heap.size ≤ w8.heap.size := by first | exact hH3.hb.size | (have := hH3.hb.size; simpa using this)
            go_simp
            refine hK.out _ _ (hH3.on (BW_alloc (BW_refl _) _)) (fun hH4 => ?_)
            clear hK K
            replace hp1 := hp1.on (BW_alloc (BW_refl _) (.cells #[.slice none 0 0] 27))
            replace hq1 := hq1.on (BW_alloc (BW_refl _) (.cells #[.slice none 0 0] 27))
            refine wpAnyH_ready (rs := [10]) (by kernel_rfl) (by simp) ?_
            refine AllReadyH.cons rfl (fun K hK => ?_) AllReadyH.nil
            go_simp
            go_at_call 97
            refine (more_made (keyB b d) n _).mono ?_
            rintro e w10 ⟨b2, rfl, hp2, hq2, hd10⟩
            go_wp2_with fail
            refine hK.out _ _ (hH4.on hd10) (fun hH5 => ?_)
            clear hK K
            replace hp1 := hp1.on hd10
            replace hq1 := hq1.on hd10
            replace kz := kz.on hd10
            have hrow : Blk (w10.alloc (.cells #[.func (.func 91) #[] #[.pointer (some ⟨b1, 0, none⟩), .pointer (some ⟨b1 + 1, 0, none⟩)], .func (.func 114) #[] #[.pointer (some ⟨b2, 0, none⟩), .pointer (some ⟨b2 + 1, 0, none⟩)]] 88)) (w10.heap.size) 88 #[.func (.func 91) #[] #[.pointer (some ⟨b1, 0, none⟩), .pointer (some ⟨b1 + 1, 0, none⟩)], .func (.func 114) #[] #[.pointer (some ⟨b2, 0, none⟩), .pointer (some ⟨b2 + 1, 0, none⟩)]] := blk1 _ _ _
            refine wpAnyH_ready (rs := [11]) (by kernel_rfl) (by simp) ?_
            refine AllReadyH.cons rfl (fun K hK => ?_) AllReadyH.nil
            go_simp
            refine hK.out _ _ (hH5.on (BW_alloc (BW_refl _) _)) (fun hH6 => ?_)
            clear hK K
            replace hp1 := hp1.on (BW_alloc (BW_refl _) (.cells #[.func (.func 91) #[] #[.pointer (some ⟨b1, 0, none⟩), .pointer (some ⟨b1 + 1, 0, none⟩)], .func (.func 114) #[] #[.pointer (some ⟨b2, 0, none⟩), .pointer (some ⟨b2 + 1, 0, none⟩)]] 88))
            replace hq1 := hq1.on (BW_alloc (BW_refl _) (.cells #[.func (.func 91) #[] #[.pointer (some ⟨b1, 0, none⟩), .pointer (some ⟨b1 + 1, 0, none⟩)], .func (.func 114) #[] #[.pointer (some ⟨b2, 0, none⟩), .pointer (some ⟨b2 + 1, 0, none⟩)]] 88))
            replace hp2 := hp2.on (BW_alloc (BW_refl _) (.cells #[.func (.func 91) #[] #[.pointer (some ⟨b1, 0, none⟩), .pointer (some ⟨b1 + 1, 0, none⟩)], .func (.func 114) #[] #[.pointer (some ⟨b2, 0, none⟩), .pointer (some ⟨b2 + 1, 0, none⟩)]] 88))
            replace hq2 := hq2.on (BW_alloc (BW_refl _) (.cells #[.func (.func 91) #[] #[.pointer (some ⟨b1, 0, none⟩), .pointer (some ⟨b1 + 1, 0, none⟩)], .func (.func 114) #[] #[.pointer (some ⟨b2, 0, none⟩), .pointer (some ⟨b2 + 1, 0, none⟩)]] 88))
            replace kz := kz.on (BW_alloc (BW_refl _) (.cells #[.func (.func 91) #[] #[.pointer (some ⟨b1, 0, none⟩), .pointer (some ⟨b1 + 1, 0, none⟩)], .func (.func 114) #[] #[.pointer (some ⟨b2, 0, none⟩), .pointer (some ⟨b2 + 1, 0, none⟩)]] 88))
            refine wpAnyH_ready (rs := [12]) (by kernel_rfl) (by simp) ?_
            refine AllReadyH.cons rfl (fun K hK => ?_) AllReadyH.nil
            go_simp
            go_at_call 66
            refine (C.out _ _ _ _ (hvw.on hH6.hb) hrow hp1 hq1 hp2 hq2).mono ?_
            rintro e w12 ⟨q3, c3, rfl, hen, hd12⟩
            go_wp2_with fail
            refine hK.out _ _ (hH6.on hd12) (fun hH7 => ?_)
            clear hK K
            replace hp1 := hp1.on hd12
            replace hq1 := hq1.on hd12
            replace hp2 := hp2.on hd12
            replace hq2 := hq2.on hd12
            replace hrow := hrow.on hd12
            replace kz := kz.on hd12
            refine wpAnyH_take (i := 13) (v := .tuple #[.agg #[.slice q3 M.length c3], .int .i64 y]) rfl (by kernel_rfl) (by kernel_rfl) (by kernel_rfl) (fun _ _ _ h => h) (yk_move (by kernel_rfl) _ rfl _ (by kernel_rfl)) hH7 ?_
            refine wpAnyH_take (i := 14) (v := .agg #[.slice q3 M.length c3]) rfl (by kernel_rfl) (by kernel_rfl) (by kernel_rfl) (fun _ _ _ h => h) (yk_ext (by kernel_rfl) _ _ rfl (.tuple #[.agg #[.slice q3 M.length c3], .int .i64 y]) (by kernel_rfl) _ (fun _ _ => rfl)) hH7 ?_
            refine wpAnyH_take (i := 15) (v := .int .i64 y) rfl (by kernel_rfl) (by kernel_rfl) (by kernel_rfl) (fun _ _ _ h => h) (yk_ext (by kernel_rfl) _ _ rfl (.tuple #[.agg #[.slice q3 M.length c3], .int .i64 y]) (by kernel_rfl) _ (fun _ _ => rfl)) hH7 ?_
            refine wpAnyH_ready (rs := [17]) (by kernel_rfl) (by simp) ?_
            refine AllReadyH.cons rfl (fun K hK => ?_) AllReadyH.nil
            rw [if_pos (by kernel_rfl)]
            refine wp_store_mid _ _ _ rfl w8.heap.size 0 [.slice q3 M.length c3].toArray (by kernel_rfl) (by kernel_rfl) (kz.there (Nat.le_refl 1)) szD (by simp [Value.oneCell']) ?_
            simp only [Act.put, List.getElem_toArray, List.getElem_cons_zero, List.getElem_cons_succ]
            refine hK.out _ _ (hH7.put (ne2 (by omega) (by omega)) (by omega) _) (fun hH8 => ?_)
            clear hK K
            refine wpAnyH_take (i := 18) (v := .int .i64 y) rfl (by kernel_rfl) (by kernel_rfl) (by kernel_rfl) (fun _ _ _ h => h) (yk_assign (by kernel_rfl) _ rfl _ (by kernel_rfl)) hH8 ?_
            refine wpAnyH_done (by kernel_rfl) ?_ _
            have hB := hH8.hb
            have hef := hen.box kz (.slice q3 M.length c3)
            replace kz := setCells_all kz [.slice q3 M.length c3] rfl
            change Exit.then _ _ _ _ (w12.setCells (w8.heap.size) 0 [.slice q3 M.length c3])
            change Ents (w12.setCells (w8.heap.size) 0 [.slice q3 M.length c3]) _ _ at hef
            generalize w12.setCells (w8.heap.size) 0 [.slice q3 M.length c3] = Z at *
            generalize w8.heap.size = gz at *
            clear hH0 hH1 hH2 hH3 hH4 hH5 hH6 hH7 hH8 hen hrow hp1 hq1 hp2 hq2 hd3 hd5 hd8 hd10 hd12
            replace kd := kd.on hB
            replace ko := ko.on hB
            replace hb0 := BW_on hb0 hB
            have cd := fun i => kd.cell i
            have cz := fun i => kz.cell i
            have co := fun i => ko.cell i
            have fo := fun i => ko.free i
            rcases Hcase.out with ⟨rfl, rfl, hbq | ⟨hbq, rfl⟩⟩ | ⟨rfl, rfl, hbq, rfl⟩
            · have hbf := hb0.setCell (p := ⟨w.heap.size + 1 + 1, 0, none⟩) (by show w.heap.size ≤ w.heap.size + 1 + 1; omega) (.slice q3 L.length c3)
              have hfe := (hef).box ko (.slice q3 L.length c3)
              go_wp2_with fail
              have hcc := fun i => (ko.set_ 0 (.slice q3 L.length c3)).cell i
              refine bodyPost_ret (v := .tuple #[.agg #[.slice q3 L.length c3], .int .i64 x]) (by simp [results, Tryz.results70, go_sem, hcc]) rfl ⟨_, _, rfl, hfe, hbf⟩
            · have hbf := hb0.setCell (p := ⟨w.heap.size + 1 + 1, 0, none⟩) (by show w.heap.size ≤ w.heap.size + 1 + 1; omega) (.slice q3 L.length c3)
              have hfe := (hef).box ko (.slice q3 L.length c3)
              go_wp2_with fail
              have hcc := fun i => (ko.set_ 0 (.slice q3 L.length c3)).cell i
              refine bodyPost_ret (v := .tuple #[.agg #[.slice q3 L.length c3], .int .i64 16]) (by simp [results, Tryz.results70, go_sem, hcc]) rfl ⟨_, _, rfl, hfe, hbf⟩
            · have hbf := hb0.setCell (p := ⟨w.heap.size + 1 + 1, 0, none⟩) (by show w.heap.size ≤ w.heap.size + 1 + 1; omega) (.slice q L.length cap)
              have hfe := (hv.on hb0).box ko (.slice q L.length cap)
              go_wp2_with fail
              have hcc := fun i => (ko.set_ 0 (.slice q L.length cap)).cell i
              refine bodyPost_ret (v := .tuple #[.agg #[.slice q L.length cap], .int .i64 0]) (by simp [results, Tryz.results70, go_sem, hcc]) rfl ⟨_, _, rfl, hfe, hbf⟩
        · have kz : Blk (w5.alloc (.cells #[.slice none 0 0] 27)) (w5.heap.size) 27 #[.slice none 0 0] := blk1 w5 _ _
          have hzl : w1.heap.size ≤ w5.heap.size := by first | exact hH2.hb.size | (have := hH2.hb.size; simpa using this)
          go_simp
          refine hK.out _ _ (hH2.on (BW_alloc (BW_refl _) _)) (fun hH3 => ?_)
          clear hK K
          replace hp1 := hp1.on (BW_alloc (BW_refl _) (.cells #[.slice none 0 0] 27))
          replace hq1 := hq1.on (BW_alloc (BW_refl _) (.cells #[.slice none 0 0] 27))
          refine wpAnyH_ready (rs := [8]) (by kernel_rfl) (by simp) ?_
          refine AllReadyH.cons rfl (fun K hK => ?_) AllReadyH.nil
          go_simp
          go_at_call 69
          refine (bkey_any b d _ (by omega) (by omega)).mono ?_
          rintro e w8 ⟨rfl, hd8⟩
          go_wp2_with fail
          refine hK.out _ _ (hH3.on hd8) (fun hH4 => ?_)
          clear hK K
          replace hp1 := hp1.on hd8
          replace hq1 := hq1.on hd8
          replace kz := kz.on hd8
          refine wpAnyH_ready (rs := [10]) (by kernel_rfl) (by simp) ?_
          refine AllReadyH.cons rfl (fun K hK => ?_) AllReadyH.nil
          go_simp
          go_at_call 97
          refine (more_made (keyB b d) n _).mono ?_
          rintro e w10 ⟨b2, rfl, hp2, hq2, hd10⟩
          go_wp2_with fail
          refine hK.out _ _ (hH4.on hd10) (fun hH5 => ?_)
          clear hK K
          replace hp1 := hp1.on hd10
          replace hq1 := hq1.on hd10
          replace kz := kz.on hd10
          have hrow : Blk (w10.alloc (.cells #[.func (.func 91) #[] #[.pointer (some ⟨b1, 0, none⟩), .pointer (some ⟨b1 + 1, 0, none⟩)], .func (.func 114) #[] #[.pointer (some ⟨b2, 0, none⟩), .pointer (some ⟨b2 + 1, 0, none⟩)]] 88)) (w10.heap.size) 88 #[.func (.func 91) #[] #[.pointer (some ⟨b1, 0, none⟩), .pointer (some ⟨b1 + 1, 0, none⟩)], .func (.func 114) #[] #[.pointer (some ⟨b2, 0, none⟩), .pointer (some ⟨b2 + 1, 0, none⟩)]] := blk1 _ _ _
          refine wpAnyH_ready (rs := [11]) (by kernel_rfl) (by simp) ?_
          refine AllReadyH.cons rfl (fun K hK => ?_) AllReadyH.nil
          go_simp
          refine hK.out _ _ (hH5.on (BW_alloc (BW_refl _) _)) (fun hH6 => ?_)
          clear hK K
          replace hp1 := hp1.on (BW_alloc (BW_refl _) (.cells #[.func (.func 91) #[] #[.pointer (some ⟨b1, 0, none⟩), .pointer (some ⟨b1 + 1, 0, none⟩)], .func (.func 114) #[] #[.pointer (some ⟨b2, 0, none⟩), .pointer (some ⟨b2 + 1, 0, none⟩)]] 88))
          replace hq1 := hq1.on (BW_alloc (BW_refl _) (.cells #[.func (.func 91) #[] #[.pointer (some ⟨b1, 0, none⟩), .pointer (some ⟨b1 + 1, 0, none⟩)], .func (.func 114) #[] #[.pointer (some ⟨b2, 0, none⟩), .pointer (some ⟨b2 + 1, 0, none⟩)]] 88))
          replace hp2 := hp2.on (BW_alloc (BW_refl _) (.cells #[.func (.func 91) #[] #[.pointer (some ⟨b1, 0, none⟩), .pointer (some ⟨b1 + 1, 0, none⟩)], .func (.func 114) #[] #[.pointer (some ⟨b2, 0, none⟩), .pointer (some ⟨b2 + 1, 0, none⟩)]] 88))
          replace hq2 := hq2.on (BW_alloc (BW_refl _) (.cells #[.func (.func 91) #[] #[.pointer (some ⟨b1, 0, none⟩), .pointer (some ⟨b1 + 1, 0, none⟩)], .func (.func 114) #[] #[.pointer (some ⟨b2, 0, none⟩), .pointer (some ⟨b2 + 1, 0, none⟩)]] 88))
          replace kz := kz.on (BW_alloc (BW_refl _) (.cells #[.func (.func 91) #[] #[.pointer (some ⟨b1, 0, none⟩), .pointer (some ⟨b1 + 1, 0, none⟩)], .func (.func 114) #[] #[.pointer (some ⟨b2, 0, none⟩), .pointer (some ⟨b2 + 1, 0, none⟩)]] 88))
          refine wpAnyH_ready (rs := [12]) (by kernel_rfl) (by simp) ?_
          refine AllReadyH.cons rfl (fun K hK => ?_) AllReadyH.nil
          go_simp
          go_at_call 66
          refine (C.out _ _ _ _ (hvw.on hH6.hb) hrow hp1 hq1 hp2 hq2).mono ?_
          rintro e w12 ⟨q3, c3, rfl, hen, hd12⟩
          go_wp2_with fail
          refine hK.out _ _ (hH6.on hd12) (fun hH7 => ?_)
          clear hK K
          replace hp1 := hp1.on hd12
          replace hq1 := hq1.on hd12
          replace hp2 := hp2.on hd12
          replace hq2 := hq2.on hd12
          replace hrow := hrow.on hd12
          replace kz := kz.on hd12
          refine wpAnyH_take (i := 13) (v := .tuple #[.agg #[.slice q3 M.length c3], .int .i64 y]) rfl (by kernel_rfl) (by kernel_rfl) (by kernel_rfl) (fun _ _ _ h => h) (yk_move (by kernel_rfl) _ rfl _ (by kernel_rfl)) hH7 ?_
          refine wpAnyH_take (i := 14) (v := .agg #[.slice q3 M.length c3]) rfl (by kernel_rfl) (by kernel_rfl) (by kernel_rfl) (fun _ _ _ h => h) (yk_ext (by kernel_rfl) _ _ rfl (.tuple #[.agg #[.slice q3 M.length c3], .int .i64 y]) (by kernel_rfl) _ (fun _ _ => rfl)) hH7 ?_
          refine wpAnyH_take (i := 15) (v := .int .i64 y) rfl (by kernel_rfl) (by kernel_rfl) (by kernel_rfl) (fun _ _ _ h => h) (yk_ext (by kernel_rfl) _ _ rfl (.tuple #[.agg #[.slice q3 M.length c3], .int .i64 y]) (by kernel_rfl) _ (fun _ _ => rfl)) hH7 ?_
          refine wpAnyH_ready (rs := [17]) (by kernel_rfl) (by simp) ?_
          refine AllReadyH.cons rfl (fun K hK => ?_) AllReadyH.nil
          rw [if_pos (by kernel_rfl)]
          refine wp_store_mid _ _ _ rfl w5.heap.size 0 [.slice q3 M.length c3].toArray (by kernel_rfl) (by kernel_rfl) (kz.there (Nat.le_refl 1)) szD (by simp [Value.oneCell']) ?_
          simp only [Act.put, List.getElem_toArray, List.getElem_cons_zero, List.getElem_cons_succ]
          refine hK.out _ _ (hH7.put (ne2 (by omega) (by omega)) (by omega) _) (fun hH8 => ?_)
          clear hK K
          refine wpAnyH_take (i := 18) (v := .int .i64 y) rfl (by kernel_rfl) (by kernel_rfl) (by kernel_rfl) (fun _ _ _ h => h) (yk_assign (by kernel_rfl) _ rfl _ (by kernel_rfl)) hH8 ?_
          refine wpAnyH_done (by kernel_rfl) ?_ _
          have hB := hH8.hb
          have hef := hen.box kz (.slice q3 M.length c3)
          replace kz := setCells_all kz [.slice q3 M.length c3] rfl
          change Exit.then _ _ _ _ (w12.setCells (w5.heap.size) 0 [.slice q3 M.length c3])
          change Ents (w12.setCells (w5.heap.size) 0 [.slice q3 M.length c3]) _ _ at hef
          generalize w12.setCells (w5.heap.size) 0 [.slice q3 M.length c3] = Z at *
          generalize w5.heap.size = gz at *
          clear hH0 hH1 hH2 hH3 hH4 hH5 hH6 hH7 hH8 hen hrow hp1 hq1 hp2 hq2 hd3 hd5 hd8 hd10 hd12
          replace kd := kd.on hB
          replace ko := ko.on hB
          replace hb0 := BW_on hb0 hB
          have cd := fun i => kd.cell i
          have cz := fun i => kz.cell i
          have co := fun i => ko.cell i
          have fo := fun i => ko.free i
          rcases Hcase.out with ⟨rfl, rfl, hbq | ⟨hbq, rfl⟩⟩ | ⟨rfl, rfl, hbq, rfl⟩
          · have hbf := hb0.setCell (p := ⟨w.heap.size + 1 + 1, 0, none⟩) (by show w.heap.size ≤ w.heap.size + 1 + 1; omega) (.slice q3 L.length c3)
            have hfe := (hef).box ko (.slice q3 L.length c3)
            go_wp2_with fail
            have hcc := fun i => (ko.set_ 0 (.slice q3 L.length c3)).cell i
            refine bodyPost_ret (v := .tuple #[.agg #[.slice q3 L.length c3], .int .i64 x]) (by simp [results, Tryz.results70, go_sem, hcc]) rfl ⟨_, _, rfl, hfe, hbf⟩
          · have hbf := hb0.setCell (p := ⟨w.heap.size + 1 + 1, 0, none⟩) (by show w.heap.size ≤ w.heap.size + 1 + 1; omega) (.slice q3 L.length c3)
            have hfe := (hef).box ko (.slice q3 L.length c3)
            go_wp2_with fail
            have hcc := fun i => (ko.set_ 0 (.slice q3 L.length c3)).cell i
            refine bodyPost_ret (v := .tuple #[.agg #[.slice q3 L.length c3], .int .i64 16]) (by simp [results, Tryz.results70, go_sem, hcc]) rfl ⟨_, _, rfl, hfe, hbf⟩
          · have hbf := hb0.setCell (p := ⟨w.heap.size + 1 + 1, 0, none⟩) (by show w.heap.size ≤ w.heap.size + 1 + 1; omega) (.slice q L.length cap)
            have hfe := (hv.on hb0).box ko (.slice q L.length cap)
            go_wp2_with fail
            have hcc := fun i => (ko.set_ 0 (.slice q L.length cap)).cell i
            refine bodyPost_ret (v := .tuple #[.agg #[.slice q L.length cap], .int .i64 0]) (by simp [results, Tryz.results70, go_sem, hcc]) rfl ⟨_, _, rfl, hfe, hbf⟩
      · have kz : Blk (w3.alloc (.cells #[.slice none 0 0] 27)) (w3.heap.size) 27 #[.slice none 0 0] := blk1 w3 _ _
        have hzl : w1.heap.size ≤ w3.heap.size := by first | exact hH1.hb.size | (have := hH1.hb.size; simpa using this)
        go_simp
        refine hK.out _ _ (hH1.on (BW_alloc (BW_refl _) _)) (fun hH2 => ?_)
        clear hK K
        
        refine wpAnyH_ready (rs := [5]) (by kernel_rfl) (by simp) ?_
        refine AllReadyH.cons rfl (fun K hK => ?_) AllReadyH.nil
        go_simp
        go_at_call 67
        refine (less_made (keyB a d) n _).mono ?_
        rintro e w5 ⟨b1, rfl, hp1, hq1, hd5⟩
        go_wp2_with fail
        refine hK.out _ _ (hH2.on hd5) (fun hH3 => ?_)
        clear hK K
        replace kz := kz.on hd5
        refine wpAnyH_ready (rs := [8]) (by kernel_rfl) (by simp) ?_
        refine AllReadyH.cons rfl (fun K hK => ?_) AllReadyH.nil
        go_simp
        go_at_call 69
        refine (bkey_any b d _ (by omega) (by omega)).mono ?_
        rintro e w8 ⟨rfl, hd8⟩
        go_wp2_with fail
        refine hK.out _ _ (hH3.on hd8) (fun hH4 => ?_)
        clear hK K
        replace hp1 := hp1.on hd8
        replace hq1 := hq1.on hd8
        replace kz := kz.on hd8
        refine wpAnyH_ready (rs := [10]) (by kernel_rfl) (by simp) ?_
        refine AllReadyH.cons rfl (fun K hK => ?_) AllReadyH.nil
        go_simp
        go_at_call 97
        refine (more_made (keyB b d) n _).mono ?_
        rintro e w10 ⟨b2, rfl, hp2, hq2, hd10⟩
        go_wp2_with fail
        refine hK.out _ _ (hH4.on hd10) (fun hH5 => ?_)
        clear hK K
        replace hp1 := hp1.on hd10
        replace hq1 := hq1.on hd10
        replace kz := kz.on hd10
        have hrow : Blk (w10.alloc (.cells #[.func (.func 91) #[] #[.pointer (some ⟨b1, 0, none⟩), .pointer (some ⟨b1 + 1, 0, none⟩)], .func (.func 114) #[] #[.pointer (some ⟨b2, 0, none⟩), .pointer (some ⟨b2 + 1, 0, none⟩)]] 88)) (w10.heap.size) 88 #[.func (.func 91) #[] #[.pointer (some ⟨b1, 0, none⟩), .pointer (some ⟨b1 + 1, 0, none⟩)], .func (.func 114) #[] #[.pointer (some ⟨b2, 0, none⟩), .pointer (some ⟨b2 + 1, 0, none⟩)]] := blk1 _ _ _
        refine wpAnyH_ready (rs := [11]) (by kernel_rfl) (by simp) ?_
        refine AllReadyH.cons rfl (fun K hK => ?_) AllReadyH.nil
        go_simp
        refine hK.out _ _ (hH5.on (BW_alloc (BW_refl _) _)) (fun hH6 => ?_)
        clear hK K
        replace hp1 := hp1.on (BW_alloc (BW_refl _) (.cells #[.func (.func 91) #[] #[.pointer (some ⟨b1, 0, none⟩), .pointer (some ⟨b1 + 1, 0, none⟩)], .func (.func 114) #[] #[.pointer (some ⟨b2, 0, none⟩), .pointer (some ⟨b2 + 1, 0, none⟩)]] 88))
        replace hq1 := hq1.on (BW_alloc (BW_refl _) (.cells #[.func (.func 91) #[] #[.pointer (some ⟨b1, 0, none⟩), .pointer (some ⟨b1 + 1, 0, none⟩)], .func (.func 114) #[] #[.pointer (some ⟨b2, 0, none⟩), .pointer (some ⟨b2 + 1, 0, none⟩)]] 88))
        replace hp2 := hp2.on (BW_alloc (BW_refl _) (.cells #[.func (.func 91) #[] #[.pointer (some ⟨b1, 0, none⟩), .pointer (some ⟨b1 + 1, 0, none⟩)], .func (.func 114) #[] #[.pointer (some ⟨b2, 0, none⟩), .pointer (some ⟨b2 + 1, 0, none⟩)]] 88))
        replace hq2 := hq2.on (BW_alloc (BW_refl _) (.cells #[.func (.func 91) #[] #[.pointer (some ⟨b1, 0, none⟩), .pointer (some ⟨b1 + 1, 0, none⟩)], .func (.func 114) #[] #[.pointer (some ⟨b2, 0, none⟩), .pointer (some ⟨b2 + 1, 0, none⟩)]] 88))
        replace kz := kz.on (BW_alloc (BW_refl _) (.cells #[.func (.func 91) #[] #[.pointer (some ⟨b1, 0, none⟩), .pointer (some ⟨b1 + 1, 0, none⟩)], .func (.func 114) #[] #[.pointer (some ⟨b2, 0, none⟩), .pointer (some ⟨b2 + 1, 0, none⟩)]] 88))
        refine wpAnyH_ready (rs := [12]) (by kernel_rfl) (by simp) ?_
        refine AllReadyH.cons rfl (fun K hK => ?_) AllReadyH.nil
        go_simp
        go_at_call 66
        refine (C.out _ _ _ _ (hvw.on hH6.hb) hrow hp1 hq1 hp2 hq2).mono ?_
        rintro e w12 ⟨q3, c3, rfl, hen, hd12⟩
        go_wp2_with fail
        refine hK.out _ _ (hH6.on hd12) (fun hH7 => ?_)
        clear hK K
        replace hp1 := hp1.on hd12
        replace hq1 := hq1.on hd12
        replace hp2 := hp2.on hd12
        replace hq2 := hq2.on hd12
        replace hrow := hrow.on hd12
        replace kz := kz.on hd12
        refine wpAnyH_take (i := 13) (v := .tuple #[.agg #[.slice q3 M.length c3], .int .i64 y]) rfl (by kernel_rfl) (by kernel_rfl) (by kernel_rfl) (fun _ _ _ h => h) (yk_move (by kernel_rfl) _ rfl _ (by kernel_rfl)) hH7 ?_
        refine wpAnyH_take (i := 14) (v := .agg #[.slice q3 M.length c3]) rfl (by kernel_rfl) (by kernel_rfl) (by kernel_rfl) (fun _ _ _ h => h) (yk_ext (by kernel_rfl) _ _ rfl (.tuple #[.agg #[.slice q3 M.length c3], .int .i64 y]) (by kernel_rfl) _ (fun _ _ => rfl)) hH7 ?_
        refine wpAnyH_take (i := 15) (v := .int .i64 y) rfl (by kernel_rfl) (by kernel_rfl) (by kernel_rfl) (fun _ _ _ h => h) (yk_ext (by kernel_rfl) _ _ rfl (.tuple #[.agg #[.slice q3 M.length c3], .int .i64 y]) (by kernel_rfl) _ (fun _ _ => rfl)) hH7 ?_
        refine wpAnyH_ready (rs := [17]) (by kernel_rfl) (by simp) ?_
        refine AllReadyH.cons rfl (fun K hK => ?_) AllReadyH.nil
        rw [if_pos (by kernel_rfl)]
        refine wp_store_mid _ _ _ rfl w3.heap.size 0 [.slice q3 M.length c3].toArray (by kernel_rfl) (by kernel_rfl) (kz.there (Nat.le_refl 1)) szD (by simp [Value.oneCell']) ?_
        simp only [Act.put, List.getElem_toArray, List.getElem_cons_zero, List.getElem_cons_succ]
        refine hK.out _ _ (hH7.put (ne2 (by omega) (by omega)) (by omega) _) (fun hH8 => ?_)
        clear hK K
        refine wpAnyH_take (i := 18) (v := .int .i64 y) rfl (by kernel_rfl) (by kernel_rfl) (by kernel_rfl) (fun _ _ _ h => h) (yk_assign (by kernel_rfl) _ rfl _ (by kernel_rfl)) hH8 ?_
        refine wpAnyH_done (by kernel_rfl) ?_ _
        have hB := hH8.hb
        have hef := hen.box kz (.slice q3 M.length c3)
        replace kz := setCells_all kz [.slice q3 M.length c3] rfl
        change Exit.then _ _ _ _ (w12.setCells (w3.heap.size) 0 [.slice q3 M.length c3])
        change Ents (w12.setCells (w3.heap.size) 0 [.slice q3 M.length c3]) _ _ at hef
        generalize w12.setCells (w3.heap.size) 0 [.slice q3 M.length c3] = Z at *
        generalize w3.heap.size = gz at *
        clear hH0 hH1 hH2 hH3 hH4 hH5 hH6 hH7 hH8 hen hrow hp1 hq1 hp2 hq2 hd3 hd5 hd8 hd10 hd12
        replace kd := kd.on hB
        replace ko := ko.on hB
        replace hb0 := BW_on hb0 hB
        have cd := fun i => kd.cell i
        have cz := fun i => kz.cell i
        have co := fun i => ko.cell i
        have fo := fun i => ko.free i
        rcases Hcase.out with ⟨rfl, rfl, hbq | ⟨hbq, rfl⟩⟩ | ⟨rfl, rfl, hbq, rfl⟩
        · have hbf := hb0.setCell (p := ⟨w.heap.size + 1 + 1, 0, none⟩) (by show w.heap.size ≤ w.heap.size + 1 + 1; omega) (.slice q3 L.length c3)
          have hfe := (hef).box ko (.slice q3 L.length c3)
          go_wp2_with fail
          have hcc := fun i => (ko.set_ 0 (.slice q3 L.length c3)).cell i
          refine bodyPost_ret (v := .tuple #[.agg #[.slice q3 L.length c3], .int .i64 x]) (by simp [results, Tryz.results70, go_sem, hcc]) rfl ⟨_, _, rfl, hfe, hbf⟩
        · have hbf := hb0.setCell (p := ⟨w.heap.size + 1 + 1, 0, none⟩) (by show w.heap.size ≤ w.heap.size + 1 + 1; omega) (.slice q3 L.length c3)
          have hfe := (hef).box ko (.slice q3 L.length c3)
          go_wp2_with fail
          have hcc := fun i => (ko.set_ 0 (.slice q3 L.length c3)).cell i
          refine bodyPost_ret (v := .tuple #[.agg #[.slice q3 L.length c3], .int .i64 16]) (by simp [results, Tryz.results70, go_sem, hcc]) rfl ⟨_, _, rfl, hfe, hbf⟩
        · have hbf := hb0.setCell (p := ⟨w.heap.size + 1 + 1, 0, none⟩) (by show w.heap.size ≤ w.heap.size + 1 + 1; omega) (.slice q L.length cap)
          have hfe := (hv.on hb0).box ko (.slice q L.length cap)
          go_wp2_with fail
          have hcc := fun i => (ko.set_ 0 (.slice q L.length cap)).cell i
          refine bodyPost_ret (v := .tuple #[.agg #[.slice q L.length cap], .int .i64 0]) (by simp [results, Tryz.results70, go_sem, hcc]) rfl ⟨_, _, rfl, hfe, hbf⟩
    · have kz : Blk (w1.drew.alloc (.cells #[.slice none 0 0] 27)) (w1.heap.size) 27 #[.slice none 0 0] := blk1 w1.drew _ _
      have hzl : w1.heap.size ≤ w1.heap.size := by first | exact hH0.hb.size | (have := hH0.hb.size; simpa using this)
      go_simp
      refine hK.out _ _ (hH0.on (BW_alloc (BW_refl _) _)) (fun hH1 => ?_)
      clear hK K
      
      refine wpAnyH_ready (rs := [3]) (by kernel_rfl) (by simp) ?_
      refine AllReadyH.cons rfl (fun K hK => ?_) AllReadyH.nil
      go_simp
      go_at_call 69
      refine (bkey_any a d _ (by omega) (by omega)).mono ?_
      rintro e w3 ⟨rfl, hd3⟩
      go_wp2_with fail
      refine hK.out _ _ (hH1.on hd3) (fun hH2 => ?_)
      clear hK K
      replace kz := kz.on hd3
      refine wpAnyH_ready (rs := [5]) (by kernel_rfl) (by simp) ?_
      refine AllReadyH.cons rfl (fun K hK => ?_) AllReadyH.nil
      go_simp
      go_at_call 67
      refine (less_made (keyB a d) n _).mono ?_
      rintro e w5 ⟨b1, rfl, hp1, hq1, hd5⟩
      go_wp2_with fail
      refine hK.out _ _ (hH2.on hd5) (fun hH3 => ?_)
      clear hK K
      replace kz := kz.on hd5
      refine wpAnyH_ready (rs := [8]) (by kernel_rfl) (by simp) ?_
      refine AllReadyH.cons rfl (fun K hK => ?_) AllReadyH.nil
      go_simp
      go_at_call 69
      refine (bkey_any b d _ (by omega) (by omega)).mono ?_
      rintro e w8 ⟨rfl, hd8⟩
      go_wp2_with fail
      refine hK.out _ _ (hH3.on hd8) (fun hH4 => ?_)
      clear hK K
      replace hp1 := hp1.on hd8
      replace hq1 := hq1.on hd8
      replace kz := kz.on hd8
      refine wpAnyH_ready (rs := [10]) (by kernel_rfl) (by simp) ?_
      refine AllReadyH.cons rfl (fun K hK => ?_) AllReadyH.nil
      go_simp
      go_at_call 97
      refine (more_made (keyB b d) n _).mono ?_
      rintro e w10 ⟨b2, rfl, hp2, hq2, hd10⟩
      go_wp2_with fail
      refine hK.out _ _ (hH4.on hd10) (fun hH5 => ?_)
      clear hK K
      replace hp1 := hp1.on hd10
      replace hq1 := hq1.on hd10
      replace kz := kz.on hd10
      have hrow : Blk (w10.alloc (.cells #[.func (.func 91) #[] #[.pointer (some ⟨b1, 0, none⟩), .pointer (some ⟨b1 + 1, 0, none⟩)], .func (.func 114) #[] #[.pointer (some ⟨b2, 0, none⟩), .pointer (some ⟨b2 + 1, 0, none⟩)]] 88)) (w10.heap.size) 88 #[.func (.func 91) #[] #[.pointer (some ⟨b1, 0, none⟩), .pointer (some ⟨b1 + 1, 0, none⟩)], .func (.func 114) #[] #[.pointer (some ⟨b2, 0, none⟩), .pointer (some ⟨b2 + 1, 0, none⟩)]] := blk1 _ _ _
      refine wpAnyH_ready (rs := [11]) (by kernel_rfl) (by simp) ?_
      refine AllReadyH.cons rfl (fun K hK => ?_) AllReadyH.nil
      go_simp
      refine hK.out _ _ (hH5.on (BW_alloc (BW_refl _) _)) (fun hH6 => ?_)
      clear hK K
      replace hp1 := hp1.on (BW_alloc (BW_refl _) (.cells #[.func (.func 91) #[] #[.pointer (some ⟨b1, 0, none⟩), .pointer (some ⟨b1 + 1, 0, none⟩)], .func (.func 114) #[] #[.pointer (some ⟨b2, 0, none⟩), .pointer (some ⟨b2 + 1, 0, none⟩)]] 88))
      replace hq1 := hq1.on (BW_alloc (BW_refl _) (.cells #[.func (.func 91) #[] #[.pointer (some ⟨b1, 0, none⟩), .pointer (some ⟨b1 + 1, 0, none⟩)], .func (.func 114) #[] #[.pointer (some ⟨b2, 0, none⟩), .pointer (some ⟨b2 + 1, 0, none⟩)]] 88))
      replace hp2 := hp2.on (BW_alloc (BW_refl _) (.cells #[.func (.func 91) #[] #[.pointer (some ⟨b1, 0, none⟩), .pointer (some ⟨b1 + 1, 0, none⟩)], .func (.func 114) #[] #[.pointer (some ⟨b2, 0, none⟩), .pointer (some ⟨b2 + 1, 0, none⟩)]] 88))
      replace hq2 := hq2.on (BW_alloc (BW_refl _) (.cells #[.func (.func 91) #[] #[.pointer (some ⟨b1, 0, none⟩), .pointer (some ⟨b1 + 1, 0, none⟩)], .func (.func 114) #[] #[.pointer (some ⟨b2, 0, none⟩), .pointer (some ⟨b2 + 1, 0, none⟩)]] 88))
      replace kz := kz.on (BW_alloc (BW_refl _) (.cells #[.func (.func 91) #[] #[.pointer (some ⟨b1, 0, none⟩), .pointer (some ⟨b1 + 1, 0, none⟩)], .func (.func 114) #[] #[.pointer (some ⟨b2, 0, none⟩), .pointer (some ⟨b2 + 1, 0, none⟩)]] 88))
      refine wpAnyH_ready (rs := [12]) (by kernel_rfl) (by simp) ?_
      refine AllReadyH.cons rfl (fun K hK => ?_) AllReadyH.nil
      go_simp
      go_at_call 66
      refine (C.out _ _ _ _ (hvw.on hH6.hb) hrow hp1 hq1 hp2 hq2).mono ?_
      rintro e w12 ⟨q3, c3, rfl, hen, hd12⟩
      go_wp2_with fail
      refine hK.out _ _ (hH6.on hd12) (fun hH7 => ?_)
      clear hK K
      replace hp1 := hp1.on hd12
      replace hq1 := hq1.on hd12
      replace hp2 := hp2.on hd12
      replace hq2 := hq2.on hd12
      replace hrow := hrow.on hd12
      replace kz := kz.on hd12
      refine wpAnyH_take (i := 13) (v := .tuple #[.agg #[.slice q3 M.length c3], .int .i64 y]) rfl (by kernel_rfl) (by kernel_rfl) (by kernel_rfl) (fun _ _ _ h => h) (yk_move (by kernel_rfl) _ rfl _ (by kernel_rfl)) hH7 ?_
      refine wpAnyH_take (i := 14) (v := .agg #[.slice q3 M.length c3]) rfl (by kernel_rfl) (by kernel_rfl) (by kernel_rfl) (fun _ _ _ h => h) (yk_ext (by kernel_rfl) _ _ rfl (.tuple #[.agg #[.slice q3 M.length c3], .int .i64 y]) (by kernel_rfl) _ (fun _ _ => rfl)) hH7 ?_
      refine wpAnyH_take (i := 15) (v := .int .i64 y) rfl (by kernel_rfl) (by kernel_rfl) (by kernel_rfl) (fun _ _ _ h => h) (yk_ext (by kernel_rfl) _ _ rfl (.tuple #[.agg #[.slice q3 M.length c3], .int .i64 y]) (by kernel_rfl) _ (fun _ _ => rfl)) hH7 ?_
      refine wpAnyH_ready (rs := [17]) (by kernel_rfl) (by simp) ?_
      refine AllReadyH.cons rfl (fun K hK => ?_) AllReadyH.nil
      rw [if_pos (by kernel_rfl)]
      refine wp_store_mid _ _ _ rfl w1.heap.size 0 [.slice q3 M.length c3].toArray (by kernel_rfl) (by kernel_rfl) (kz.there (Nat.le_refl 1)) szD (by simp [Value.oneCell']) ?_
      simp only [Act.put, List.getElem_toArray, List.getElem_cons_zero, List.getElem_cons_succ]
      refine hK.out _ _ (hH7.put (ne2 (by omega) (by omega)) (by omega) _) (fun hH8 => ?_)
      clear hK K
      refine wpAnyH_take (i := 18) (v := .int .i64 y) rfl (by kernel_rfl) (by kernel_rfl) (by kernel_rfl) (fun _ _ _ h => h) (yk_assign (by kernel_rfl) _ rfl _ (by kernel_rfl)) hH8 ?_
      refine wpAnyH_done (by kernel_rfl) ?_ _
      have hB := hH8.hb
      have hef := hen.box kz (.slice q3 M.length c3)
      replace kz := setCells_all kz [.slice q3 M.length c3] rfl
      change Exit.then _ _ _ _ (w12.setCells (w1.heap.size) 0 [.slice q3 M.length c3])
      change Ents (w12.setCells (w1.heap.size) 0 [.slice q3 M.length c3]) _ _ at hef
      generalize w12.setCells (w1.heap.size) 0 [.slice q3 M.length c3] = Z at *
      have hgz0 := hzl
      clear hH0 hH1 hH2 hH3 hH4 hH5 hH6 hH7 hH8 hen hrow hp1 hq1 hp2 hq2 hd3 hd5 hd8 hd10 hd12
      replace kd := kd.on hB
      replace ko := ko.on hB
      replace hb0 := BW_on hb0 hB
      have cd := fun i => kd.cell i
      have cz := fun i => kz.cell i
      have co := fun i => ko.cell i
      have fo := fun i => ko.free i
      rcases Hcase.out with ⟨rfl, rfl, hbq | ⟨hbq, rfl⟩⟩ | ⟨rfl, rfl, hbq, rfl⟩
      · have hbf := hb0.setCell (p := ⟨w.heap.size + 1 + 1, 0, none⟩) (by show w.heap.size ≤ w.heap.size + 1 + 1; omega) (.slice q3 L.length c3)
        have hfe := (hef).box ko (.slice q3 L.length c3)
        go_wp2_with fail
        have hcc := fun i => (ko.set_ 0 (.slice q3 L.length c3)).cell i
        refine bodyPost_ret (v := .tuple #[.agg #[.slice q3 L.length c3], .int .i64 x]) (by simp [results, Tryz.results70, go_sem, hcc]) rfl ⟨_, _, rfl, hfe, hbf⟩
      · have hbf := hb0.setCell (p := ⟨w.heap.size + 1 + 1, 0, none⟩) (by show w.heap.size ≤ w.heap.size + 1 + 1; omega) (.slice q3 L.length c3)
        have hfe := (hef).box ko (.slice q3 L.length c3)
        go_wp2_with fail
        have hcc := fun i => (ko.set_ 0 (.slice q3 L.length c3)).cell i
        refine bodyPost_ret (v := .tuple #[.agg #[.slice q3 L.length c3], .int .i64 16]) (by simp [results, Tryz.results70, go_sem, hcc]) rfl ⟨_, _, rfl, hfe, hbf⟩
      · have hbf := hb0.setCell (p := ⟨w.heap.size + 1 + 1, 0, none⟩) (by show w.heap.size ≤ w.heap.size + 1 + 1; omega) (.slice q L.length cap)
        have hfe := (hv.on hb0).box ko (.slice q L.length cap)
        go_wp2_with fail
        have hcc := fun i => (ko.set_ 0 (.slice q L.length cap)).cell i
        refine bodyPost_ret (v := .tuple #[.agg #[.slice q L.length cap], .int .i64 0]) (by simp [results, Tryz.results70, go_sem, hcc]) rfl ⟨_, _, rfl, hfe, hbf⟩
end Go.Proofs.YtpcdgljcpacpiaaGreatDoor

/- The law BankAny: of any map whatsoever amounts are told, and changed, as the words say: for every input. -/
import Derived.Test.YtiaflghhfcnjlaaBp
import Derived.Test.YtiaflghhfcnjlaaBo
import Derived.Test.YtiaflghhfcnjlaaBy
import Derived.Test.YtiaflghhfcnjlaaTh
namespace Go.Proofs.Ytiaflghhfcnjlaa
open Go.ChangeShapes Go.WideShapes Go.ChangeAt Go.RowKit Go.WideElems
section
attribute [local go_sem ↓] Go.wp_at_zero Go.wp_at_succ
theorem short11_b (s : ByteArray) (n : Nat) (w : World) : Calls Try.prog 14 #[.string s, .int .i64 (n : Int)] w fun e w' => e = .returned (.string (shN s n)) ∧ Below w.heap.size w w' := (short11_any s n w).mono (by rintro e w' ⟨rfl, rfl⟩; exact ⟨rfl, BW_refl _⟩)
theorem short11_20 (s : ByteArray) (w : World) : Calls Try.prog 14 #[.string s, .int .i64 20] w fun e w' => e = .returned (.string (shN s 20)) ∧ Below w.heap.size w w' := short11_b s 20 w
theorem short11_40 (s : ByteArray) (w : World) : Calls Try.prog 14 #[.string s, .int .i64 40] w fun e w' => e = .returned (.string (shN s 40)) ∧ Below w.heap.size w w' := short11_b s 40 w
theorem and3n (x : Int) : ∃ a : Int, (a = 0 ∨ a = 1 ∨ a = 2 ∨ a = 3) ∧ bits .and .i64 x 3 = a := by
  have e2 : (BitVec.ofInt 64 3).toNat = 3 := by decide
  have h : (BitVec.ofInt 64 x &&& BitVec.ofInt 64 3).toNat ≤ 3 := by
    rw [BitVec.toNat_and, e2]
    exact Nat.and_le_right
  have e : bits .and .i64 x 3 = IntKind.i64.wrap (((BitVec.ofInt 64 x &&& BitVec.ofInt 64 3).toNat : Nat) : Int) := rfl
  refine ⟨((BitVec.ofInt 64 x &&& BitVec.ofInt 64 3).toNat : Int), by omega, ?_⟩
  rw [e, IntKind.wrap_i64]
  omega
theorem two_one (x y : ByteArray) : (([.string x, .string y] : List Value).toArray.all fun v => v.oneCell') = true := by simp [Value.oneCell']
theorem szE : (Try.prog.info? 49).map (·.size) = some 2 := by kernel_rfl
theorem Ents.store10 {w0 w : World} {v : Value} {L : List Ent} (h : Ents w0 v L) (hb : Below w0.heap.size w0 w) : Ents w v L := h.on hb
set_option maxHeartbeats 16000000 in
set_option maxRecDepth 100000 in
theorem l11any_any (vl vp : Value) (L : List Ent) (PL : List Int) (pk : Int) (pf pt pd : ByteArray) (pn : Nat) (praw psm : Bool) (hpn : W256 pn) (w : World) (hvl : Hid (Ents w vl L)) (hL : L.length ≤ 9223372036854775807) (hvp : Hid (Ints w vp PL)) (hPL : PL.length ≤ 9223372036854775807) :
    Calls Try.prog 4 #[vl, vp, .agg #[.int .i64 pk, .string pf, .string pt, .string pd, .int .u64 (limb pn 0), .int .u64 (limb pn 1), .int .u64 (limb pn 2), .int .u64 (limb pn 3), .bool praw, .bool psm]] w fun e w' => e = .returned (.bool true) ∧ Below w.heap.size w w' := by
  obtain ⟨i0, hi0, hz0, hz1, hz2⟩ := info_parts infoE
  obtain ⟨ql, cl, rfl, _, _, hfl⟩ := hvl.out.form
  obtain ⟨qp, cp, rfl, hfp⟩ := hvp.out
  have Hfl := Lib.hid hfl
  have Hfp := Lib.hid hfp
  clear hvl hvp hfl hfp
  obtain ⟨m, hm, hsm⟩ := small11_any pk pf pt pd pn praw psm hpn
  have zf := smT_size praw 1 pf
  have zt := smT_size praw 1 pt
  have zd := smT_size praw 3 pd
  generalize smT praw 1 pf = F at *
  generalize smT praw 1 pt = T at *
  generalize smT praw 3 pd = D at *
  have Hsm := Lib.hid hsm
  clear hsm
  have k_p := blk1 w 35 #[.int .i64 pk, .string pf, .string pt, .string pd, .int .u64 (limb pn 0), .int .u64 (limb pn 1), .int .u64 (limb pn 2), .int .u64 (limb pn 3), .bool praw, .bool psm]
  have BB := BW_alloc (BW_refl w) (.cells #[.int .i64 pk, .string pf, .string pt, .string pd, .int .u64 (limb pn 0), .int .u64 (limb pn 1), .int .u64 (limb pn 2), .int .u64 (limb pn 3), .bool praw, .bool psm] 35)
  go_enter Try.func4, Try.ntmps4
  go_wp2_with fail
  refine (awake11_any _).mono ?_
  rintro e w1 ⟨rfl, hb1⟩
  replace k_p := k_p.on hb1
  replace BB := BW_on BB hb1
  clear hb1
  have c_p := fun i => k_p.cell i
  go_wp2_with fail
  refine (Hsm.out _).mono ?_
  rintro e w2 ⟨rfl, hb2⟩
  clear c_p
  replace k_p := k_p.on hb2
  replace BB := BW_on BB hb2
  clear hb2 Hsm
  have c_p := fun i => k_p.cell i
  have f_p := fun i => k_p.free i
  have kp2 := k_p.store10 (.int .i64 pk) (.string F) (.string T) (.string D) (.int .u64 (limb m 0)) (.int .u64 (limb m 1)) (.int .u64 (limb m 2)) (.int .u64 (limb m 3)) (.bool praw) (.bool psm)
  have bb2 := below_store10 BB (Nat.le_refl w.heap.size) (.int .i64 pk) (.string F) (.string T) (.string D) (.int .u64 (limb m 0)) (.int .u64 (limb m 1)) (.int .u64 (limb m 2)) (.int .u64 (limb m 3)) (.bool praw) (.bool psm)
  clear k_p BB
  go_upto_region 4 with (fail)
  change Code.wp _ _ _ _ ((((((((((w2.setCell ⟨w.heap.size, 0, none⟩ (.int .i64 pk)).setCell ⟨w.heap.size, 1, none⟩ (.string F)).setCell ⟨w.heap.size, 2, none⟩ (.string T)).setCell ⟨w.heap.size, 3, none⟩ (.string D)).setCell ⟨w.heap.size, 4, none⟩ (.int .u64 (limb m 0))).setCell ⟨w.heap.size, 5, none⟩ (.int .u64 (limb m 1))).setCell ⟨w.heap.size, 6, none⟩ (.int .u64 (limb m 2))).setCell ⟨w.heap.size, 7, none⟩ (.int .u64 (limb m 3))).setCell ⟨w.heap.size, 8, none⟩ (.bool praw)).setCell ⟨w.heap.size, 9, none⟩ (.bool psm))
  clear c_p f_p
  generalize (((((((((w2.setCell ⟨w.heap.size, 0, none⟩ (.int .i64 pk)).setCell ⟨w.heap.size, 1, none⟩ (.string F)).setCell ⟨w.heap.size, 2, none⟩ (.string T)).setCell ⟨w.heap.size, 3, none⟩ (.string D)).setCell ⟨w.heap.size, 4, none⟩ (.int .u64 (limb m 0))).setCell ⟨w.heap.size, 5, none⟩ (.int .u64 (limb m 1))).setCell ⟨w.heap.size, 6, none⟩ (.int .u64 (limb m 2))).setCell ⟨w.heap.size, 7, none⟩ (.int .u64 (limb m 3))).setCell ⟨w.heap.size, 8, none⟩ (.bool praw)).setCell ⟨w.heap.size, 9, none⟩ (.bool psm) = W3 at *
  have k_p := kp2
  have BB := bb2
  have hgp : w.heap.size < W3.heap.size := k_p.lt
  clear kp2 bb2
  go_wp2_with fail
  go_loopw [8, 9] (fun mv i wr => ∃ (k : Nat) (M : List Ent), k ≤ L.length ∧ k ≤ 8 ∧ M.length = k ∧ i = .int .i64 (k : Int) ∧ wr.ownsRow W3.heap.size 49 2 mv k (entV M) ∧ Below W3.heap.size W3 wr) (fun _ i _ => (9 - intOf i).toNat)
  case atStart => exact ⟨0, [], by omega, by omega, rfl, rfl, World.ownsRow_nil _ _ _ _, Below.refl _ _⟩
  case round =>
    obtain ⟨k, M, hk, hk8, hM, rfl, hown, hbw⟩ := hrel
    by_cases hlt : k < L.length ∧ k < 8
    · obtain ⟨hlt1, hlt2⟩ := hlt
      obtain ⟨g, off, rfl, hent⟩ := Hfl.out (by omega)
      have BBk := BB.trans (hbw.mono (Nat.le_of_lt hgp))
      have hc := (hent.on BBk) k hlt1
      have k_pk := k_p.below hbw hgp
      have hk1 : (k : Int) < (L.length : Int) := by omega
      have hk2 : (k : Int) < 8 := by omega
      have Hk3 : Hid (wrap64 ((k : Int) + 1) = (k : Int) + 1) := Lib.hid (by unfold wrap64; omega)
      obtain ⟨o0, o1⟩ := hc
      clear hent
      generalize L[k].1 = a1 at *
      generalize L[k].2 = a2 at *
      have hszW := hbw.size
      go_upto_region 7 with (fail)
      refine wp_region_held_drew (S := BxS wr []) (by kernel_rfl) ((BxS.nil (BW_refl wr))).drew (fun hH0 => ?_)
      refine wpAnyH_take (i := 0) (v := .slice (some ⟨g, off, none⟩) L.length cl) rfl (by kernel_rfl) (by kernel_rfl) (by kernel_rfl) (fun _ _ _ h => h) (yk_move (by kernel_rfl) _ rfl _ (by kernel_rfl)) hH0 ?_
      refine wpAnyH_take (i := 1) (v := .int .i64 (k : Int)) rfl (by kernel_rfl) (by kernel_rfl) (by kernel_rfl) (fun _ _ _ h => h) (yk_move (by kernel_rfl) _ rfl _ (by kernel_rfl)) hH0 ?_
      refine wpAnyH_take (i := 2) (v := .pointer (some ⟨g, off + k * 2, none⟩)) rfl (by kernel_rfl) (by kernel_rfl) (by kernel_rfl) (fun _ _ _ h => h) (yk_iaB (by kernel_rfl) _ _ _ rfl (.slice (some ⟨g, off, none⟩) L.length cl) (.int .i64 (k : Int)) (by kernel_rfl) (by kernel_rfl) _ (fun w' hw' => by go_simp)) hH0 ?_
      refine wpAnyH_take (i := 3) (v := .pointer (some ⟨g, off + k * 2, none⟩)) rfl (by kernel_rfl) (by kernel_rfl) (by kernel_rfl) (fun _ _ _ h => h) (yk_faB (by kernel_rfl) _ _ _ rfl (.pointer (some ⟨g, off + k * 2, none⟩)) (by kernel_rfl) _ (fun w' hw' => by go_simp)) hH0 ?_
      refine wpAnyH_take (i := 4) (v := .string a1) rfl (by kernel_rfl) (by kernel_rfl) (by kernel_rfl) (fun _ _ _ h => h) (yk_load (by kernel_rfl) _ _ rfl (.pointer (some ⟨g, off + k * 2, none⟩)) (by kernel_rfl) _ (fun w' hw' => by have c0 := BW_cell hw'.hb o0; go_simp)) hH0 ?_
      refine wpAnyH_take (i := 6) (v := .slice (some ⟨g, off, none⟩) L.length cl) rfl (by kernel_rfl) (by kernel_rfl) (by kernel_rfl) (fun _ _ _ h => h) (yk_move (by kernel_rfl) _ rfl _ (by kernel_rfl)) hH0 ?_
      refine wpAnyH_take (i := 7) (v := .int .i64 (k : Int)) rfl (by kernel_rfl) (by kernel_rfl) (by kernel_rfl) (fun _ _ _ h => h) (yk_move (by kernel_rfl) _ rfl _ (by kernel_rfl)) hH0 ?_
      refine wpAnyH_take (i := 8) (v := .pointer (some ⟨g, off + k * 2, none⟩)) rfl (by kernel_rfl) (by kernel_rfl) (by kernel_rfl) (fun _ _ _ h => h) (yk_iaB (by kernel_rfl) _ _ _ rfl (.slice (some ⟨g, off, none⟩) L.length cl) (.int .i64 (k : Int)) (by kernel_rfl) (by kernel_rfl) _ (fun w' hw' => by go_simp)) hH0 ?_
      refine wpAnyH_take (i := 9) (v := .pointer (some ⟨g, off + k * 2 + 1, none⟩)) rfl (by kernel_rfl) (by kernel_rfl) (by kernel_rfl) (fun _ _ _ h => h) (yk_faB (by kernel_rfl) _ _ _ rfl (.pointer (some ⟨g, off + k * 2, none⟩)) (by kernel_rfl) _ (fun w' hw' => by go_simp)) hH0 ?_
      refine wpAnyH_take (i := 10) (v := .string a2) rfl (by kernel_rfl) (by kernel_rfl) (by kernel_rfl) (fun _ _ _ h => h) (yk_load (by kernel_rfl) _ _ rfl (.pointer (some ⟨g, off + k * 2 + 1, none⟩)) (by kernel_rfl) _ (fun w' hw' => by have c0 := BW_cell hw'.hb o1; go_simp)) hH0 ?_
      refine wpAnyH_ready (rs := [5, 13]) (by kernel_rfl) (by simp) ?_
      refine AllReadyH.cons rfl (fun K hK => ?_) (AllReadyH.cons rfl (fun K hK => ?_) (AllReadyH.nil))
      · go_simp
        go_at_call 14
        refine (short11_20 a1 _).mono ?_
        rintro e w5 ⟨rfl, hd5⟩
        go_wp2_with fail
        refine hK.out _ _ (hH0.on hd5) (fun hH1 => ?_)
        clear hK K
        
        refine wpAnyH_ready (rs := [11, 13]) (by kernel_rfl) (by simp) ?_
        refine AllReadyH.cons rfl (fun K hK => ?_) (AllReadyH.cons rfl (fun K hK => ?_) (AllReadyH.nil))
        · go_simp
          go_at_call 14
          refine (short11_40 a2 _).mono ?_
          rintro e w11 ⟨rfl, hd11⟩
          go_wp2_with fail
          refine hK.out _ _ (hH1.on hd11) (fun hH2 => ?_)
          clear hK K
          
          refine wpAnyH_take (i := 12) (v := .agg #[.string (shN a1 20), .string (shN a2 40)]) rfl (by kernel_rfl) (by kernel_rfl) (by kernel_rfl) (fun _ _ _ h => h) (yk_build (by kernel_rfl) _ _ rfl _ (fun w' hw' => run_build _ _ _ _ (by kernel_rfl))) hH2 ?_
          have k_z : Blk (w11.alloc (.cells #[.string ⟨#[]⟩, .string ⟨#[]⟩] 49)) (w11.heap.size) 49 #[.string ⟨#[]⟩, .string ⟨#[]⟩] := blk1 w11 _ _
          have hzl : wr.heap.size ≤ w11.heap.size := hH2.hb.size
          refine wpAnyH_ready (rs := [13]) (by kernel_rfl) (by simp) ?_
          refine AllReadyH.cons rfl (fun K hK => ?_) AllReadyH.nil
          go_simp
          refine hK.out _ _ (hH2.on (BW_alloc (BW_refl _) _)) (fun hH3 => ?_)
          clear hK K
          
          refine wpAnyH_ready (rs := [14]) (by kernel_rfl) (by simp) ?_
          refine AllReadyH.cons rfl (fun K hK => ?_) AllReadyH.nil
          rw [if_pos (by kernel_rfl)]
          try simp only [Act.put, List.getElem_toArray, List.getElem_cons_zero, List.getElem_cons_succ, List.setIfInBounds_toArray, List.set_cons_succ, List.set_cons_zero]
          refine wp_store_mid _ _ _ rfl w11.heap.size 0 [.string (shN a1 20), .string (shN a2 40)].toArray (by kernel_rfl) (by kernel_rfl) (k_z.there (Nat.le_refl 2)) szE (two_one _ _) ?_
          simp only [Act.put, List.getElem_toArray, List.getElem_cons_zero, List.getElem_cons_succ]
          refine hK.out _ _ (hH3.put ((by intro x hx; cases hx)) (by omega) _) (fun hH4 => ?_)
          clear hK K
          refine wpAnyH_done (by kernel_rfl) ?_ _
          have hB := hH4.hb
          replace k_z := setCells_all k_z [.string (shN a1 20), .string (shN a2 40)] rfl
          change Exit.then _ _ _ _ ((w11.alloc (.cells #[.string ⟨#[]⟩, .string ⟨#[]⟩] 49)).setCells (w11.heap.size) 0 [.string (shN a1 20), .string (shN a2 40)])
          generalize (w11.alloc (.cells #[.string ⟨#[]⟩, .string ⟨#[]⟩] 49)).setCells (w11.heap.size) 0 [.string (shN a1 20), .string (shN a2 40)] = Z at *
          generalize w11.heap.size = gz at *
          clear hH0 hH1 hH2 hH3 hH4 hd5 hd11
          have hBz := hB
          have hownZ := own_below hown hBz
          have hbZ := hbw.trans (hB.mono hszW)
          have k_pZ := k_pk.on hB
          have hszZ := hbZ.size
          have hgzW : W3.heap.size ≤ gz := by omega
          have hgpz : w.heap.size ≠ gz := by omega
          have BBz := BBk.trans (hB.mono BBk.size)
          clear hB k_pk o0 o1
          have hwgz : wr.heap.size ≤ gz := by omega
          generalize shN a1 20 = K1 at *
          generalize shN a2 40 = V1 at *
          have c_z := fun i => k_z.cell i
          by_cases hp : k < PL.length
          · obtain ⟨gp, offp, rfl, hcp⟩ := Hfp.out (by omega)
            have hcx := BW_cell BBz (hcp k hp)
            clear hcp
            generalize PL[k] = x at *
            obtain ⟨p, hp4, hpx⟩ := and3n x
            have hpi : (k : Int) < (PL.length : Int) := by omega
            clear hp
            have cp := fun i => k_pZ.cell i
            rcases hp4 with rfl | rfl | rfl | rfl
            · clear c_z
              have hzc := fun i => k_z.cell i
              have hvv : entV (M ++ [(K1, V1)]) = entV M ++ [.string (K1), .string V1] := by rw [entV_app]; rfl
              have Hvv := Lib.hid hvv
              clear hvv
              go_wp2_with (at_builtin; go_must (refine wpList_push_at rfl _ _ 24 rfl W3.heap.size 49 i0 (.agg #[.string ⟨#[]⟩, .string ⟨#[]⟩]) 2 32 Try.underlying24 hi0 hz0 hz1 hz2 rfl (by decide) _ _ _ rfl hownZ [.string (K1), .string V1] _ rfl rfl rfl rfl (by unfold maxLen; omega) (by omega) (hszZ) ?_); intro v1 w9 hown9 hb9 hz9)
              rw [← Hvv.out] at hown9
              go_roundw
              case rel => exact ⟨k + 1, M ++ [(K1, V1)], by omega, by omega, by rw [List.length_append, hM]; rfl, by first | rfl | (rw [Hk3.out]; rfl), hown9, (hbZ).trans hb9⟩
              case measure => first | (simp [intOf, Hk3.out]; done) | (simp [intOf, Hk3.out]; omega) | (simp [intOf]; omega)
            · have f_z := fun i => k_z.free i
              go_wp2_with fail
              refine (r11key_any F D _ (by omega) (by omega)).mono ?_
              rintro e w5 ⟨rfl, hb5⟩
              clear c_z f_z cp
              have k_z5 := k_z.on hb5
              have hBz5 := BW_on hBz hb5
              have hb55 := hbZ.trans (hb5.mono hszZ)
              have c_z := fun i => k_z5.cell i
              have f_z := fun i => k_z5.free i
              have kz6 : Blk (w5.setCell ⟨gz, 0, none⟩ (.string (keyB F D))) gz 49 #[.string (keyB F D), .string V1] := k_z5.set_ 0 (.string (keyB F D))
              have hown6 := own_below hown (hBz5.setCell (p := ⟨gz, 0, none⟩) hwgz (.string (keyB F D)))
              have hb66 := hb55.setCell (p := ⟨gz, 0, none⟩) hgzW (.string (keyB F D))
              go_upto_region 16 with (fail)
              change Code.wp _ _ _ _ (w5.setCell ⟨gz, 0, none⟩ (.string (keyB F D)))
              clear c_z f_z k_z k_z5 hown hownZ hBz hBz5 hbZ hb55 hb5 k_pZ BBz
              generalize w5.setCell ⟨gz, 0, none⟩ (.string (keyB F D)) = Z6 at *
              have hsz6 := hb66.size
              skip
              have hzc := fun i => kz6.cell i
              have hvv : entV (M ++ [(keyB F D, V1)]) = entV M ++ [.string (keyB F D), .string V1] := by rw [entV_app]; rfl
              have Hvv := Lib.hid hvv
              clear hvv
              go_wp2_with (at_builtin; go_must (refine wpList_push_at rfl _ _ 24 rfl W3.heap.size 49 i0 (.agg #[.string ⟨#[]⟩, .string ⟨#[]⟩]) 2 32 Try.underlying24 hi0 hz0 hz1 hz2 rfl (by decide) _ _ _ rfl hown6 [.string (keyB F D), .string V1] _ rfl rfl rfl rfl (by unfold maxLen; omega) (by omega) (hsz6) ?_); intro v1 w9 hown9 hb9 hz9)
              rw [← Hvv.out] at hown9
              go_roundw
              case rel => exact ⟨k + 1, M ++ [(keyB F D, V1)], by omega, by omega, by rw [List.length_append, hM]; rfl, by first | rfl | (rw [Hk3.out]; rfl), hown9, (hb66).trans hb9⟩
              case measure => first | (simp [intOf, Hk3.out]; done) | (simp [intOf, Hk3.out]; omega) | (simp [intOf]; omega)
            · have f_z := fun i => k_z.free i
              go_wp2_with fail
              refine (r11key_any T D _ (by omega) (by omega)).mono ?_
              rintro e w5 ⟨rfl, hb5⟩
              clear c_z f_z cp
              have k_z5 := k_z.on hb5
              have hBz5 := BW_on hBz hb5
              have hb55 := hbZ.trans (hb5.mono hszZ)
              have c_z := fun i => k_z5.cell i
              have f_z := fun i => k_z5.free i
              have kz6 : Blk (w5.setCell ⟨gz, 0, none⟩ (.string (keyB T D))) gz 49 #[.string (keyB T D), .string V1] := k_z5.set_ 0 (.string (keyB T D))
              have hown6 := own_below hown (hBz5.setCell (p := ⟨gz, 0, none⟩) hwgz (.string (keyB T D)))
              have hb66 := hb55.setCell (p := ⟨gz, 0, none⟩) hgzW (.string (keyB T D))
              go_upto_region 16 with (fail)
              change Code.wp _ _ _ _ (w5.setCell ⟨gz, 0, none⟩ (.string (keyB T D)))
              clear c_z f_z k_z k_z5 hown hownZ hBz hBz5 hbZ hb55 hb5 k_pZ BBz
              generalize w5.setCell ⟨gz, 0, none⟩ (.string (keyB T D)) = Z6 at *
              have hsz6 := hb66.size
              skip
              have hzc := fun i => kz6.cell i
              have hvv : entV (M ++ [(keyB T D, V1)]) = entV M ++ [.string (keyB T D), .string V1] := by rw [entV_app]; rfl
              have Hvv := Lib.hid hvv
              clear hvv
              go_wp2_with (at_builtin; go_must (refine wpList_push_at rfl _ _ 24 rfl W3.heap.size 49 i0 (.agg #[.string ⟨#[]⟩, .string ⟨#[]⟩]) 2 32 Try.underlying24 hi0 hz0 hz1 hz2 rfl (by decide) _ _ _ rfl hown6 [.string (keyB T D), .string V1] _ rfl rfl rfl rfl (by unfold maxLen; omega) (by omega) (hsz6) ?_); intro v1 w9 hown9 hb9 hz9)
              rw [← Hvv.out] at hown9
              go_roundw
              case rel => exact ⟨k + 1, M ++ [(keyB T D, V1)], by omega, by omega, by rw [List.length_append, hM]; rfl, by first | rfl | (rw [Hk3.out]; rfl), hown9, (hb66).trans hb9⟩
              case measure => first | (simp [intOf, Hk3.out]; done) | (simp [intOf, Hk3.out]; omega) | (simp [intOf]; omega)
            · have f_z := fun i => k_z.free i
              go_wp2_with fail
              refine (r11tot_any D _ (by omega)).mono ?_
              rintro e w5 ⟨rfl, hb5⟩
              clear c_z f_z cp
              have k_z5 := k_z.on hb5
              have hBz5 := BW_on hBz hb5
              have hb55 := hbZ.trans (hb5.mono hszZ)
              have c_z := fun i => k_z5.cell i
              have f_z := fun i => k_z5.free i
              have kz6 : Blk (w5.setCell ⟨gz, 0, none⟩ (.string (totB D))) gz 49 #[.string (totB D), .string V1] := k_z5.set_ 0 (.string (totB D))
              have hown6 := own_below hown (hBz5.setCell (p := ⟨gz, 0, none⟩) hwgz (.string (totB D)))
              have hb66 := hb55.setCell (p := ⟨gz, 0, none⟩) hgzW (.string (totB D))
              go_upto_region 16 with (fail)
              change Code.wp _ _ _ _ (w5.setCell ⟨gz, 0, none⟩ (.string (totB D)))
              clear c_z f_z k_z k_z5 hown hownZ hBz hBz5 hbZ hb55 hb5 k_pZ BBz
              generalize w5.setCell ⟨gz, 0, none⟩ (.string (totB D)) = Z6 at *
              have hsz6 := hb66.size
              skip
              have hzc := fun i => kz6.cell i
              have hvv : entV (M ++ [(totB D, V1)]) = entV M ++ [.string (totB D), .string V1] := by rw [entV_app]; rfl
              have Hvv := Lib.hid hvv
              clear hvv
              go_wp2_with (at_builtin; go_must (refine wpList_push_at rfl _ _ 24 rfl W3.heap.size 49 i0 (.agg #[.string ⟨#[]⟩, .string ⟨#[]⟩]) 2 32 Try.underlying24 hi0 hz0 hz1 hz2 rfl (by decide) _ _ _ rfl hown6 [.string (totB D), .string V1] _ rfl rfl rfl rfl (by unfold maxLen; omega) (by omega) (hsz6) ?_); intro v1 w9 hown9 hb9 hz9)
              rw [← Hvv.out] at hown9
              go_roundw
              case rel => exact ⟨k + 1, M ++ [(totB D, V1)], by omega, by omega, by rw [List.length_append, hM]; rfl, by first | rfl | (rw [Hk3.out]; rfl), hown9, (hb66).trans hb9⟩
              case measure => first | (simp [intOf, Hk3.out]; done) | (simp [intOf, Hk3.out]; omega) | (simp [intOf]; omega)
          · have hpi : ¬ (k : Int) < (PL.length : Int) := by omega
            clear hp
            clear c_z
            have hzc := fun i => k_z.cell i
            have hvv : entV (M ++ [(K1, V1)]) = entV M ++ [.string (K1), .string V1] := by rw [entV_app]; rfl
            have Hvv := Lib.hid hvv
            clear hvv
            go_wp2_with (at_builtin; go_must (refine wpList_push_at rfl _ _ 24 rfl W3.heap.size 49 i0 (.agg #[.string ⟨#[]⟩, .string ⟨#[]⟩]) 2 32 Try.underlying24 hi0 hz0 hz1 hz2 rfl (by decide) _ _ _ rfl hownZ [.string (K1), .string V1] _ rfl rfl rfl rfl (by unfold maxLen; omega) (by omega) (hszZ) ?_); intro v1 w9 hown9 hb9 hz9)
            rw [← Hvv.out] at hown9
            go_roundw
            case rel => exact ⟨k + 1, M ++ [(K1, V1)], by omega, by omega, by rw [List.length_append, hM]; rfl, by first | rfl | (rw [Hk3.out]; rfl), hown9, (hbZ).trans hb9⟩
            case measure => first | (simp [intOf, Hk3.out]; done) | (simp [intOf, Hk3.out]; omega) | (simp [intOf]; omega)
        · have k_z : Blk (w5.alloc (.cells #[.string ⟨#[]⟩, .string ⟨#[]⟩] 49)) (w5.heap.size) 49 #[.string ⟨#[]⟩, .string ⟨#[]⟩] := blk1 w5 _ _
          have hzl : wr.heap.size ≤ w5.heap.size := hH1.hb.size
          go_simp
          refine hK.out _ _ (hH1.on (BW_alloc (BW_refl _) _)) (fun hH2 => ?_)
          clear hK K
          
          refine wpAnyH_ready (rs := [11]) (by kernel_rfl) (by simp) ?_
          refine AllReadyH.cons rfl (fun K hK => ?_) AllReadyH.nil
          go_simp
          go_at_call 14
          refine (short11_40 a2 _).mono ?_
          rintro e w11 ⟨rfl, hd11⟩
          go_wp2_with fail
          refine hK.out _ _ (hH2.on hd11) (fun hH3 => ?_)
          clear hK K
          replace k_z := k_z.on hd11
          refine wpAnyH_take (i := 12) (v := .agg #[.string (shN a1 20), .string (shN a2 40)]) rfl (by kernel_rfl) (by kernel_rfl) (by kernel_rfl) (fun _ _ _ h => h) (yk_build (by kernel_rfl) _ _ rfl _ (fun w' hw' => run_build _ _ _ _ (by kernel_rfl))) hH3 ?_
          refine wpAnyH_ready (rs := [14]) (by kernel_rfl) (by simp) ?_
          refine AllReadyH.cons rfl (fun K hK => ?_) AllReadyH.nil
          rw [if_pos (by kernel_rfl)]
          try simp only [Act.put, List.getElem_toArray, List.getElem_cons_zero, List.getElem_cons_succ, List.setIfInBounds_toArray, List.set_cons_succ, List.set_cons_zero]
          refine wp_store_mid _ _ _ rfl w5.heap.size 0 [.string (shN a1 20), .string (shN a2 40)].toArray (by kernel_rfl) (by kernel_rfl) (k_z.there (Nat.le_refl 2)) szE (two_one _ _) ?_
          simp only [Act.put, List.getElem_toArray, List.getElem_cons_zero, List.getElem_cons_succ]
          refine hK.out _ _ (hH3.put ((by intro x hx; cases hx)) (by omega) _) (fun hH4 => ?_)
          clear hK K
          refine wpAnyH_done (by kernel_rfl) ?_ _
          have hB := hH4.hb
          replace k_z := setCells_all k_z [.string (shN a1 20), .string (shN a2 40)] rfl
          change Exit.then _ _ _ _ (w11.setCells (w5.heap.size) 0 [.string (shN a1 20), .string (shN a2 40)])
          generalize w11.setCells (w5.heap.size) 0 [.string (shN a1 20), .string (shN a2 40)] = Z at *
          generalize w5.heap.size = gz at *
          clear hH0 hH1 hH2 hH3 hH4 hd5 hd11
          have hBz := hB
          have hownZ := own_below hown hBz
          have hbZ := hbw.trans (hB.mono hszW)
          have k_pZ := k_pk.on hB
          have hszZ := hbZ.size
          have hgzW : W3.heap.size ≤ gz := by omega
          have hgpz : w.heap.size ≠ gz := by omega
          have BBz := BBk.trans (hB.mono BBk.size)
          clear hB k_pk o0 o1
          have hwgz : wr.heap.size ≤ gz := by omega
          generalize shN a1 20 = K1 at *
          generalize shN a2 40 = V1 at *
          have c_z := fun i => k_z.cell i
          by_cases hp : k < PL.length
          · obtain ⟨gp, offp, rfl, hcp⟩ := Hfp.out (by omega)
            have hcx := BW_cell BBz (hcp k hp)
            clear hcp
            generalize PL[k] = x at *
            obtain ⟨p, hp4, hpx⟩ := and3n x
            have hpi : (k : Int) < (PL.length : Int) := by omega
            clear hp
            have cp := fun i => k_pZ.cell i
            rcases hp4 with rfl | rfl | rfl | rfl
            · clear c_z
              have hzc := fun i => k_z.cell i
              have hvv : entV (M ++ [(K1, V1)]) = entV M ++ [.string (K1), .string V1] := by rw [entV_app]; rfl
              have Hvv := Lib.hid hvv
              clear hvv
              go_wp2_with (at_builtin; go_must (refine wpList_push_at rfl _ _ 24 rfl W3.heap.size 49 i0 (.agg #[.string ⟨#[]⟩, .string ⟨#[]⟩]) 2 32 Try.underlying24 hi0 hz0 hz1 hz2 rfl (by decide) _ _ _ rfl hownZ [.string (K1), .string V1] _ rfl rfl rfl rfl (by unfold maxLen; omega) (by omega) (hszZ) ?_); intro v1 w9 hown9 hb9 hz9)
              rw [← Hvv.out] at hown9
              go_roundw
              case rel => exact ⟨k + 1, M ++ [(K1, V1)], by omega, by omega, by rw [List.length_append, hM]; rfl, by first | rfl | (rw [Hk3.out]; rfl), hown9, (hbZ).trans hb9⟩
              case measure => first | (simp [intOf, Hk3.out]; done) | (simp [intOf, Hk3.out]; omega) | (simp [intOf]; omega)
            · have f_z := fun i => k_z.free i
              go_wp2_with fail
              refine (r11key_any F D _ (by omega) (by omega)).mono ?_
              rintro e w5 ⟨rfl, hb5⟩
              clear c_z f_z cp
              have k_z5 := k_z.on hb5
              have hBz5 := BW_on hBz hb5
              have hb55 := hbZ.trans (hb5.mono hszZ)
              have c_z := fun i => k_z5.cell i
              have f_z := fun i => k_z5.free i
              have kz6 : Blk (w5.setCell ⟨gz, 0, none⟩ (.string (keyB F D))) gz 49 #[.string (keyB F D), .string V1] := k_z5.set_ 0 (.string (keyB F D))
              have hown6 := own_below hown (hBz5.setCell (p := ⟨gz, 0, none⟩) hwgz (.string (keyB F D)))
              have hb66 := hb55.setCell (p := ⟨gz, 0, none⟩) hgzW (.string (keyB F D))
              go_upto_region 16 with (fail)
              change Code.wp _ _ _ _ (w5.setCell ⟨gz, 0, none⟩ (.string (keyB F D)))
              clear c_z f_z k_z k_z5 hown hownZ hBz hBz5 hbZ hb55 hb5 k_pZ BBz
              generalize w5.setCell ⟨gz, 0, none⟩ (.string (keyB F D)) = Z6 at *
              have hsz6 := hb66.size
              skip
              have hzc := fun i => kz6.cell i
              have hvv : entV (M ++ [(keyB F D, V1)]) = entV M ++ [.string (keyB F D), .string V1] := by rw [entV_app]; rfl
              have Hvv := Lib.hid hvv
              clear hvv
              go_wp2_with (at_builtin; go_must (refine wpList_push_at rfl _ _ 24 rfl W3.heap.size 49 i0 (.agg #[.string ⟨#[]⟩, .string ⟨#[]⟩]) 2 32 Try.underlying24 hi0 hz0 hz1 hz2 rfl (by decide) _ _ _ rfl hown6 [.string (keyB F D), .string V1] _ rfl rfl rfl rfl (by unfold maxLen; omega) (by omega) (hsz6) ?_); intro v1 w9 hown9 hb9 hz9)
              rw [← Hvv.out] at hown9
              go_roundw
              case rel => exact ⟨k + 1, M ++ [(keyB F D, V1)], by omega, by omega, by rw [List.length_append, hM]; rfl, by first | rfl | (rw [Hk3.out]; rfl), hown9, (hb66).trans hb9⟩
              case measure => first | (simp [intOf, Hk3.out]; done) | (simp [intOf, Hk3.out]; omega) | (simp [intOf]; omega)
            · have f_z := fun i => k_z.free i
              go_wp2_with fail
              refine (r11key_any T D _ (by omega) (by omega)).mono ?_
              rintro e w5 ⟨rfl, hb5⟩
              clear c_z f_z cp
              have k_z5 := k_z.on hb5
              have hBz5 := BW_on hBz hb5
              have hb55 := hbZ.trans (hb5.mono hszZ)
              have c_z := fun i => k_z5.cell i
              have f_z := fun i => k_z5.free i
              have kz6 : Blk (w5.setCell ⟨gz, 0, none⟩ (.string (keyB T D))) gz 49 #[.string (keyB T D), .string V1] := k_z5.set_ 0 (.string (keyB T D))
              have hown6 := own_below hown (hBz5.setCell (p := ⟨gz, 0, none⟩) hwgz (.string (keyB T D)))
              have hb66 := hb55.setCell (p := ⟨gz, 0, none⟩) hgzW (.string (keyB T D))
              go_upto_region 16 with (fail)
              change Code.wp _ _ _ _ (w5.setCell ⟨gz, 0, none⟩ (.string (keyB T D)))
              clear c_z f_z k_z k_z5 hown hownZ hBz hBz5 hbZ hb55 hb5 k_pZ BBz
              generalize w5.setCell ⟨gz, 0, none⟩ (.string (keyB T D)) = Z6 at *
              have hsz6 := hb66.size
              skip
              have hzc := fun i => kz6.cell i
              have hvv : entV (M ++ [(keyB T D, V1)]) = entV M ++ [.string (keyB T D), .string V1] := by rw [entV_app]; rfl
              have Hvv := Lib.hid hvv
              clear hvv
              go_wp2_with (at_builtin; go_must (refine wpList_push_at rfl _ _ 24 rfl W3.heap.size 49 i0 (.agg #[.string ⟨#[]⟩, .string ⟨#[]⟩]) 2 32 Try.underlying24 hi0 hz0 hz1 hz2 rfl (by decide) _ _ _ rfl hown6 [.string (keyB T D), .string V1] _ rfl rfl rfl rfl (by unfold maxLen; omega) (by omega) (hsz6) ?_); intro v1 w9 hown9 hb9 hz9)
              rw [← Hvv.out] at hown9
              go_roundw
              case rel => exact ⟨k + 1, M ++ [(keyB T D, V1)], by omega, by omega, by rw [List.length_append, hM]; rfl, by first | rfl | (rw [Hk3.out]; rfl), hown9, (hb66).trans hb9⟩
              case measure => first | (simp [intOf, Hk3.out]; done) | (simp [intOf, Hk3.out]; omega) | (simp [intOf]; omega)
            · have f_z := fun i => k_z.free i
              go_wp2_with fail
              refine (r11tot_any D _ (by omega)).mono ?_
              rintro e w5 ⟨rfl, hb5⟩
              clear c_z f_z cp
              have k_z5 := k_z.on hb5
              have hBz5 := BW_on hBz hb5
              have hb55 := hbZ.trans (hb5.mono hszZ)
              have c_z := fun i => k_z5.cell i
              have f_z := fun i => k_z5.free i
              have kz6 : Blk (w5.setCell ⟨gz, 0, none⟩ (.string (totB D))) gz 49 #[.string (totB D), .string V1] := k_z5.set_ 0 (.string (totB D))
              have hown6 := own_below hown (hBz5.setCell (p := ⟨gz, 0, none⟩) hwgz (.string (totB D)))
              have hb66 := hb55.setCell (p := ⟨gz, 0, none⟩) hgzW (.string (totB D))
              go_upto_region 16 with (fail)
              change Code.wp _ _ _ _ (w5.setCell ⟨gz, 0, none⟩ (.string (totB D)))
              clear c_z f_z k_z k_z5 hown hownZ hBz hBz5 hbZ hb55 hb5 k_pZ BBz
              generalize w5.setCell ⟨gz, 0, none⟩ (.string (totB D)) = Z6 at *
              have hsz6 := hb66.size
              skip
              have hzc := fun i => kz6.cell i
              have hvv : entV (M ++ [(totB D, V1)]) = entV M ++ [.string (totB D), .string V1] := by rw [entV_app]; rfl
              have Hvv := Lib.hid hvv
              clear hvv
              go_wp2_with (at_builtin; go_must (refine wpList_push_at rfl _ _ 24 rfl W3.heap.size 49 i0 (.agg #[.string ⟨#[]⟩, .string ⟨#[]⟩]) 2 32 Try.underlying24 hi0 hz0 hz1 hz2 rfl (by decide) _ _ _ rfl hown6 [.string (totB D), .string V1] _ rfl rfl rfl rfl (by unfold maxLen; omega) (by omega) (hsz6) ?_); intro v1 w9 hown9 hb9 hz9)
              rw [← Hvv.out] at hown9
              go_roundw
              case rel => exact ⟨k + 1, M ++ [(totB D, V1)], by omega, by omega, by rw [List.length_append, hM]; rfl, by first | rfl | (rw [Hk3.out]; rfl), hown9, (hb66).trans hb9⟩
              case measure => first | (simp [intOf, Hk3.out]; done) | (simp [intOf, Hk3.out]; omega) | (simp [intOf]; omega)
          · have hpi : ¬ (k : Int) < (PL.length : Int) := by omega
            clear hp
            clear c_z
            have hzc := fun i => k_z.cell i
            have hvv : entV (M ++ [(K1, V1)]) = entV M ++ [.string (K1), .string V1] := by rw [entV_app]; rfl
            have Hvv := Lib.hid hvv
            clear hvv
            go_wp2_with (at_builtin; go_must (refine wpList_push_at rfl _ _ 24 rfl W3.heap.size 49 i0 (.agg #[.string ⟨#[]⟩, .string ⟨#[]⟩]) 2 32 Try.underlying24 hi0 hz0 hz1 hz2 rfl (by decide) _ _ _ rfl hownZ [.string (K1), .string V1] _ rfl rfl rfl rfl (by unfold maxLen; omega) (by omega) (hszZ) ?_); intro v1 w9 hown9 hb9 hz9)
            rw [← Hvv.out] at hown9
            go_roundw
            case rel => exact ⟨k + 1, M ++ [(K1, V1)], by omega, by omega, by rw [List.length_append, hM]; rfl, by first | rfl | (rw [Hk3.out]; rfl), hown9, (hbZ).trans hb9⟩
            case measure => first | (simp [intOf, Hk3.out]; done) | (simp [intOf, Hk3.out]; omega) | (simp [intOf]; omega)
      · have k_z : Blk ((wr.alloc (.cells #[.string ⟨#[]⟩, .string ⟨#[]⟩] 49)).drew) (wr.heap.size) 49 #[.string ⟨#[]⟩, .string ⟨#[]⟩] := (blk1 wr _ _).drew
        have hzl : wr.heap.size ≤ wr.heap.size := hH0.hb.size
        go_simp
        refine hK.out _ _ (hH0.on (BW_alloc (BW_refl _) _)) (fun hH1 => ?_)
        clear hK K
        
        refine wpAnyH_ready (rs := [5]) (by kernel_rfl) (by simp) ?_
        refine AllReadyH.cons rfl (fun K hK => ?_) AllReadyH.nil
        go_simp
        go_at_call 14
        refine (short11_20 a1 _).mono ?_
        rintro e w5 ⟨rfl, hd5⟩
        go_wp2_with fail
        refine hK.out _ _ (hH1.on hd5) (fun hH2 => ?_)
        clear hK K
        replace k_z := k_z.on hd5
        refine wpAnyH_ready (rs := [11]) (by kernel_rfl) (by simp) ?_
        refine AllReadyH.cons rfl (fun K hK => ?_) AllReadyH.nil
        go_simp
        go_at_call 14
        refine (short11_40 a2 _).mono ?_
        rintro e w11 ⟨rfl, hd11⟩
        go_wp2_with fail
        refine hK.out _ _ (hH2.on hd11) (fun hH3 => ?_)
        clear hK K
        replace k_z := k_z.on hd11
        refine wpAnyH_take (i := 12) (v := .agg #[.string (shN a1 20), .string (shN a2 40)]) rfl (by kernel_rfl) (by kernel_rfl) (by kernel_rfl) (fun _ _ _ h => h) (yk_build (by kernel_rfl) _ _ rfl _ (fun w' hw' => run_build _ _ _ _ (by kernel_rfl))) hH3 ?_
        refine wpAnyH_ready (rs := [14]) (by kernel_rfl) (by simp) ?_
        refine AllReadyH.cons rfl (fun K hK => ?_) AllReadyH.nil
        rw [if_pos (by kernel_rfl)]
        try simp only [Act.put, List.getElem_toArray, List.getElem_cons_zero, List.getElem_cons_succ, List.setIfInBounds_toArray, List.set_cons_succ, List.set_cons_zero]
        refine wp_store_mid _ _ _ rfl wr.heap.size 0 [.string (shN a1 20), .string (shN a2 40)].toArray (by kernel_rfl) (by kernel_rfl) (k_z.there (Nat.le_refl 2)) szE (two_one _ _) ?_
        simp only [Act.put, List.getElem_toArray, List.getElem_cons_zero, List.getElem_cons_succ]
        refine hK.out _ _ (hH3.put ((by intro x hx; cases hx)) (by omega) _) (fun hH4 => ?_)
        clear hK K
        refine wpAnyH_done (by kernel_rfl) ?_ _
        have hB := hH4.hb
        replace k_z := setCells_all k_z [.string (shN a1 20), .string (shN a2 40)] rfl
        change Exit.then _ _ _ _ (w11.setCells (wr.heap.size) 0 [.string (shN a1 20), .string (shN a2 40)])
        generalize w11.setCells (wr.heap.size) 0 [.string (shN a1 20), .string (shN a2 40)] = Z at *
        clear hH0 hH1 hH2 hH3 hH4 hd5 hd11
        have hBz := hB
        have hownZ := own_below hown hBz
        have hbZ := hbw.trans (hB.mono hszW)
        have k_pZ := k_pk.on hB
        have hszZ := hbZ.size
        have hgzW : W3.heap.size ≤ wr.heap.size := by omega
        have hgpz : w.heap.size ≠ wr.heap.size := by omega
        have BBz := BBk.trans (hB.mono BBk.size)
        clear hB k_pk o0 o1
        have hwgz : wr.heap.size ≤ wr.heap.size := by omega
        generalize shN a1 20 = K1 at *
        generalize shN a2 40 = V1 at *
        have c_z := fun i => k_z.cell i
        by_cases hp : k < PL.length
        · obtain ⟨gp, offp, rfl, hcp⟩ := Hfp.out (by omega)
          have hcx := BW_cell BBz (hcp k hp)
          clear hcp
          generalize PL[k] = x at *
          obtain ⟨p, hp4, hpx⟩ := and3n x
          have hpi : (k : Int) < (PL.length : Int) := by omega
          clear hp
          have cp := fun i => k_pZ.cell i
          rcases hp4 with rfl | rfl | rfl | rfl
          · clear c_z
            have hzc := fun i => k_z.cell i
            have hvv : entV (M ++ [(K1, V1)]) = entV M ++ [.string (K1), .string V1] := by rw [entV_app]; rfl
            have Hvv := Lib.hid hvv
            clear hvv
            go_wp2_with (at_builtin; go_must (refine wpList_push_at rfl _ _ 24 rfl W3.heap.size 49 i0 (.agg #[.string ⟨#[]⟩, .string ⟨#[]⟩]) 2 32 Try.underlying24 hi0 hz0 hz1 hz2 rfl (by decide) _ _ _ rfl hownZ [.string (K1), .string V1] _ rfl rfl rfl rfl (by unfold maxLen; omega) (by omega) (hszZ) ?_); intro v1 w9 hown9 hb9 hz9)
            rw [← Hvv.out] at hown9
            go_roundw
            case rel => exact ⟨k + 1, M ++ [(K1, V1)], by omega, by omega, by rw [List.length_append, hM]; rfl, by first | rfl | (rw [Hk3.out]; rfl), hown9, (hbZ).trans hb9⟩
            case measure => first | (simp [intOf, Hk3.out]; done) | (simp [intOf, Hk3.out]; omega) | (simp [intOf]; omega)
          · have f_z := fun i => k_z.free i
            go_wp2_with fail
            refine (r11key_any F D _ (by omega) (by omega)).mono ?_
            rintro e w5 ⟨rfl, hb5⟩
            clear c_z f_z cp
            have k_z5 := k_z.on hb5
            have hBz5 := BW_on hBz hb5
            have hb55 := hbZ.trans (hb5.mono hszZ)
            have c_z := fun i => k_z5.cell i
            have f_z := fun i => k_z5.free i
            have kz6 : Blk (w5.setCell ⟨wr.heap.size, 0, none⟩ (.string (keyB F D))) wr.heap.size 49 #[.string (keyB F D), .string V1] := k_z5.set_ 0 (.string (keyB F D))
            have hown6 := own_below hown (hBz5.setCell (p := ⟨wr.heap.size, 0, none⟩) hwgz (.string (keyB F D)))
            have hb66 := hb55.setCell (p := ⟨wr.heap.size, 0, none⟩) hgzW (.string (keyB F D))
            go_upto_region 16 with (fail)
            change Code.wp _ _ _ _ (w5.setCell ⟨wr.heap.size, 0, none⟩ (.string (keyB F D)))
            clear c_z f_z k_z k_z5 hown hownZ hBz hBz5 hbZ hb55 hb5 k_pZ BBz
            generalize w5.setCell ⟨wr.heap.size, 0, none⟩ (.string (keyB F D)) = Z6 at *
            have hsz6 := hb66.size
            skip
            have hzc := fun i => kz6.cell i
            have hvv : entV (M ++ [(keyB F D, V1)]) = entV M ++ [.string (keyB F D), .string V1] := by rw [entV_app]; rfl
            have Hvv := Lib.hid hvv
            clear hvv
            go_wp2_with (at_builtin; go_must (refine wpList_push_at rfl _ _ 24 rfl W3.heap.size 49 i0 (.agg #[.string ⟨#[]⟩, .string ⟨#[]⟩]) 2 32 Try.underlying24 hi0 hz0 hz1 hz2 rfl (by decide) _ _ _ rfl hown6 [.string (keyB F D), .string V1] _ rfl rfl rfl rfl (by unfold maxLen; omega) (by omega) (hsz6) ?_); intro v1 w9 hown9 hb9 hz9)
            rw [← Hvv.out] at hown9
            go_roundw
            case rel => exact ⟨k + 1, M ++ [(keyB F D, V1)], by omega, by omega, by rw [List.length_append, hM]; rfl, by first | rfl | (rw [Hk3.out]; rfl), hown9, (hb66).trans hb9⟩
            case measure => first | (simp [intOf, Hk3.out]; done) | (simp [intOf, Hk3.out]; omega) | (simp [intOf]; omega)
          · have f_z := fun i => k_z.free i
            go_wp2_with fail
            refine (r11key_any T D _ (by omega) (by omega)).mono ?_
            rintro e w5 ⟨rfl, hb5⟩
            clear c_z f_z cp
            have k_z5 := k_z.on hb5
            have hBz5 := BW_on hBz hb5
            have hb55 := hbZ.trans (hb5.mono hszZ)
            have c_z := fun i => k_z5.cell i
            have f_z := fun i => k_z5.free i
            have kz6 : Blk (w5.setCell ⟨wr.heap.size, 0, none⟩ (.string (keyB T D))) wr.heap.size 49 #[.string (keyB T D), .string V1] := k_z5.set_ 0 (.string (keyB T D))
            have hown6 := own_below hown (hBz5.setCell (p := ⟨wr.heap.size, 0, none⟩) hwgz (.string (keyB T D)))
            have hb66 := hb55.setCell (p := ⟨wr.heap.size, 0, none⟩) hgzW (.string (keyB T D))
            go_upto_region 16 with (fail)
            change Code.wp _ _ _ _ (w5.setCell ⟨wr.heap.size, 0, none⟩ (.string (keyB T D)))
            clear c_z f_z k_z k_z5 hown hownZ hBz hBz5 hbZ hb55 hb5 k_pZ BBz
            generalize w5.setCell ⟨wr.heap.size, 0, none⟩ (.string (keyB T D)) = Z6 at *
            have hsz6 := hb66.size
            skip
            have hzc := fun i => kz6.cell i
            have hvv : entV (M ++ [(keyB T D, V1)]) = entV M ++ [.string (keyB T D), .string V1] := by rw [entV_app]; rfl
            have Hvv := Lib.hid hvv
            clear hvv
            go_wp2_with (at_builtin; go_must (refine wpList_push_at rfl _ _ 24 rfl W3.heap.size 49 i0 (.agg #[.string ⟨#[]⟩, .string ⟨#[]⟩]) 2 32 Try.underlying24 hi0 hz0 hz1 hz2 rfl (by decide) _ _ _ rfl hown6 [.string (keyB T D), .string V1] _ rfl rfl rfl rfl (by unfold maxLen; omega) (by omega) (hsz6) ?_); intro v1 w9 hown9 hb9 hz9)
            rw [← Hvv.out] at hown9
            go_roundw
            case rel => exact ⟨k + 1, M ++ [(keyB T D, V1)], by omega, by omega, by rw [List.length_append, hM]; rfl, by first | rfl | (rw [Hk3.out]; rfl), hown9, (hb66).trans hb9⟩
            case measure => first | (simp [intOf, Hk3.out]; done) | (simp [intOf, Hk3.out]; omega) | (simp [intOf]; omega)
          · have f_z := fun i => k_z.free i
            go_wp2_with fail
            refine (r11tot_any D _ (by omega)).mono ?_
            rintro e w5 ⟨rfl, hb5⟩
            clear c_z f_z cp
            have k_z5 := k_z.on hb5
            have hBz5 := BW_on hBz hb5
            have hb55 := hbZ.trans (hb5.mono hszZ)
            have c_z := fun i => k_z5.cell i
            have f_z := fun i => k_z5.free i
            have kz6 : Blk (w5.setCell ⟨wr.heap.size, 0, none⟩ (.string (totB D))) wr.heap.size 49 #[.string (totB D), .string V1] := k_z5.set_ 0 (.string (totB D))
            have hown6 := own_below hown (hBz5.setCell (p := ⟨wr.heap.size, 0, none⟩) hwgz (.string (totB D)))
            have hb66 := hb55.setCell (p := ⟨wr.heap.size, 0, none⟩) hgzW (.string (totB D))
            go_upto_region 16 with (fail)
            change Code.wp _ _ _ _ (w5.setCell ⟨wr.heap.size, 0, none⟩ (.string (totB D)))
            clear c_z f_z k_z k_z5 hown hownZ hBz hBz5 hbZ hb55 hb5 k_pZ BBz
            generalize w5.setCell ⟨wr.heap.size, 0, none⟩ (.string (totB D)) = Z6 at *
            have hsz6 := hb66.size
            skip
            have hzc := fun i => kz6.cell i
            have hvv : entV (M ++ [(totB D, V1)]) = entV M ++ [.string (totB D), .string V1] := by rw [entV_app]; rfl
            have Hvv := Lib.hid hvv
            clear hvv
            go_wp2_with (at_builtin; go_must (refine wpList_push_at rfl _ _ 24 rfl W3.heap.size 49 i0 (.agg #[.string ⟨#[]⟩, .string ⟨#[]⟩]) 2 32 Try.underlying24 hi0 hz0 hz1 hz2 rfl (by decide) _ _ _ rfl hown6 [.string (totB D), .string V1] _ rfl rfl rfl rfl (by unfold maxLen; omega) (by omega) (hsz6) ?_); intro v1 w9 hown9 hb9 hz9)
            rw [← Hvv.out] at hown9
            go_roundw
            case rel => exact ⟨k + 1, M ++ [(totB D, V1)], by omega, by omega, by rw [List.length_append, hM]; rfl, by first | rfl | (rw [Hk3.out]; rfl), hown9, (hb66).trans hb9⟩
            case measure => first | (simp [intOf, Hk3.out]; done) | (simp [intOf, Hk3.out]; omega) | (simp [intOf]; omega)
        · have hpi : ¬ (k : Int) < (PL.length : Int) := by omega
          clear hp
          clear c_z
          have hzc := fun i => k_z.cell i
          have hvv : entV (M ++ [(K1, V1)]) = entV M ++ [.string (K1), .string V1] := by rw [entV_app]; rfl
          have Hvv := Lib.hid hvv
          clear hvv
          go_wp2_with (at_builtin; go_must (refine wpList_push_at rfl _ _ 24 rfl W3.heap.size 49 i0 (.agg #[.string ⟨#[]⟩, .string ⟨#[]⟩]) 2 32 Try.underlying24 hi0 hz0 hz1 hz2 rfl (by decide) _ _ _ rfl hownZ [.string (K1), .string V1] _ rfl rfl rfl rfl (by unfold maxLen; omega) (by omega) (hszZ) ?_); intro v1 w9 hown9 hb9 hz9)
          rw [← Hvv.out] at hown9
          go_roundw
          case rel => exact ⟨k + 1, M ++ [(K1, V1)], by omega, by omega, by rw [List.length_append, hM]; rfl, by first | rfl | (rw [Hk3.out]; rfl), hown9, (hbZ).trans hb9⟩
          case measure => first | (simp [intOf, Hk3.out]; done) | (simp [intOf, Hk3.out]; omega) | (simp [intOf]; omega)
    · have hout : ¬ ((k : Int) < (L.length : Int)) ∨ (k = 8 ∧ (k : Int) < (L.length : Int)) := by omega
      clear hlt hk
      rcases hout with hk1 | ⟨rfl, hk1⟩
      · have hMl : M.length ≤ 8 := by omega
        have hme : Hid (Ents wr u8 M) := own_ents (by rw [hM]; exact hown)
        replace k_p := k_p.below hbw hgp
        replace BB := BB.trans (hbw.mono (Nat.le_of_lt hgp))
        clear hown hbw hM Hfl Hfp hi0 hz0 hz1 hz2
        have hol := ofL_len M
        obtain ⟨hos, _⟩ := ofL_inv M
        have Hos := Lib.hid hos
        have hEl : (ofL M).length ≤ 8 := by omega
        clear hos hol
        go_wp2_with fail
        refine (drof_any _ M _ hme.out (by omega)).mono ?_
        rintro e wR ⟨vr, rfl, her, hb⟩
        replace k_p := k_p.on hb
        replace BB := BW_on BB hb
        have hme4 := Lib.hid (hme.out.on hb)
        have e_r := Lib.hid her
        clear hb her hme
        go_wp2_with fail
        refine (of_any _ M _ hme4.out (by omega)).mono ?_
        rintro e wD ⟨vd, rfl, hed, hb⟩
        replace k_p := k_p.on hb
        replace e_r := Lib.hid (e_r.out.on hb)
        replace BB := BW_on BB hb
        obtain ⟨qd, cd, rfl⟩ := hed.len
        clear hme4
        generalize ofL M = E at *
        have e_d := Lib.hid hed
        clear hed hb
        go_upto_region 19 with (fail)
        change Code.wp _ _ _ _ (wD.alloc (.cells #[.slice qd E.length cd] 26))
        replace k_p := k_p.on (BW_alloc (BW_refl _) (.cells #[.slice qd E.length cd] 26))
        replace e_r := Lib.hid (e_r.out.on (BW_alloc (BW_refl _) (.cells #[.slice qd E.length cd] 26)))
        replace e_d := Lib.hid (e_d.out.on (BW_alloc (BW_refl _) (.cells #[.slice qd E.length cd] 26)))
        replace BB := BW_on BB (BW_alloc (BW_refl _) (.cells #[.slice qd E.length cd] 26))
        have k_d := blk1 wD 26 #[.slice qd E.length cd]
        generalize wD.alloc (.cells #[.slice qd E.length cd] 26) = W6 at *
        refine wp_region_held_drew (S := BxS W6 [(wD.heap.size, 26, #[.slice qd E.length cd]), (w.heap.size, 35, #[.int .i64 pk, .string F, .string T, .string D, .int .u64 (limb m 0), .int .u64 (limb m 1), .int .u64 (limb m 2), .int .u64 (limb m 3), .bool praw, .bool psm])]) (by kernel_rfl) ((((BxS.nil (BW_refl W6)).cons k_p).cons k_d)).drew (fun hH0 => ?_)
        refine wpAnyH_take (i := 0) (v := .agg #[.slice qd E.length cd]) rfl (by kernel_rfl) (by kernel_rfl) (by kernel_rfl) (fun _ _ _ h => h) (yk_load (by kernel_rfl) _ _ rfl (.pointer (some ⟨wD.heap.size, 0, none⟩)) (by kernel_rfl) _ (fun w' hw' => by have c0 := (hw'.bl _ (.head _)).cell 0; go_simp)) hH0 ?_
        refine wpAnyH_take (i := 1) (v := .pointer (some ⟨w.heap.size, 1, none⟩)) rfl (by kernel_rfl) (by kernel_rfl) (by kernel_rfl) (fun _ _ _ h => h) (yk_faB (by kernel_rfl) _ _ _ rfl (.pointer (some ⟨w.heap.size, 0, none⟩)) (by kernel_rfl) _ (fun w' hw' => by go_simp)) hH0 ?_
        refine wpAnyH_take (i := 2) (v := .string F) rfl (by kernel_rfl) (by kernel_rfl) (by kernel_rfl) (fun _ _ _ h => h) (yk_load (by kernel_rfl) _ _ rfl (.pointer (some ⟨w.heap.size, 1, none⟩)) (by kernel_rfl) _ (fun w' hw' => by have c1 := (hw'.bl _ (.tail _ (.head _))).cell 1; go_simp)) hH0 ?_
        refine wpAnyH_take (i := 3) (v := .pointer (some ⟨w.heap.size, 3, none⟩)) rfl (by kernel_rfl) (by kernel_rfl) (by kernel_rfl) (fun _ _ _ h => h) (yk_faB (by kernel_rfl) _ _ _ rfl (.pointer (some ⟨w.heap.size, 0, none⟩)) (by kernel_rfl) _ (fun w' hw' => by go_simp)) hH0 ?_
        refine wpAnyH_take (i := 4) (v := .string D) rfl (by kernel_rfl) (by kernel_rfl) (by kernel_rfl) (fun _ _ _ h => h) (yk_load (by kernel_rfl) _ _ rfl (.pointer (some ⟨w.heap.size, 3, none⟩)) (by kernel_rfl) _ (fun w' hw' => by have c3 := (hw'.bl _ (.tail _ (.head _))).cell 3; go_simp)) hH0 ?_
        refine wpAnyH_take (i := 6) (v := vr) rfl (by kernel_rfl) (by kernel_rfl) (by kernel_rfl) (fun _ _ _ h => h) (yk_move (by kernel_rfl) _ rfl _ (by kernel_rfl)) hH0 ?_
        refine wpAnyH_take (i := 7) (v := .pointer (some ⟨w.heap.size, 1, none⟩)) rfl (by kernel_rfl) (by kernel_rfl) (by kernel_rfl) (fun _ _ _ h => h) (yk_faB (by kernel_rfl) _ _ _ rfl (.pointer (some ⟨w.heap.size, 0, none⟩)) (by kernel_rfl) _ (fun w' hw' => by go_simp)) hH0 ?_
        refine wpAnyH_take (i := 8) (v := .string F) rfl (by kernel_rfl) (by kernel_rfl) (by kernel_rfl) (fun _ _ _ h => h) (yk_load (by kernel_rfl) _ _ rfl (.pointer (some ⟨w.heap.size, 1, none⟩)) (by kernel_rfl) _ (fun w' hw' => by have c1 := (hw'.bl _ (.tail _ (.head _))).cell 1; go_simp)) hH0 ?_
        refine wpAnyH_take (i := 9) (v := .pointer (some ⟨w.heap.size, 3, none⟩)) rfl (by kernel_rfl) (by kernel_rfl) (by kernel_rfl) (fun _ _ _ h => h) (yk_faB (by kernel_rfl) _ _ _ rfl (.pointer (some ⟨w.heap.size, 0, none⟩)) (by kernel_rfl) _ (fun w' hw' => by go_simp)) hH0 ?_
        refine wpAnyH_take (i := 10) (v := .string D) rfl (by kernel_rfl) (by kernel_rfl) (by kernel_rfl) (fun _ _ _ h => h) (yk_load (by kernel_rfl) _ _ rfl (.pointer (some ⟨w.heap.size, 3, none⟩)) (by kernel_rfl) _ (fun w' hw' => by have c3 := (hw'.bl _ (.tail _ (.head _))).cell 3; go_simp)) hH0 ?_
        refine wpAnyH_ready (rs := [5]) (by kernel_rfl) (by simp) ?_
        refine AllReadyH.cons rfl (fun K hK => ?_) AllReadyH.nil
        go_simp
        go_at_call 11
        refine (bbal_any _ E F D _ (e_d.out.on hH0.hb) Hos.out (by omega) (by omega) (by omega)).mono ?_
        rintro e w5 ⟨rfl, hd5⟩
        go_wp2_with fail
        refine hK.out _ _ (hH0.on hd5) (fun hH1 => ?_)
        clear hK K
        refine wpAnyH_ready (rs := [11]) (by kernel_rfl) (by simp) ?_
        refine AllReadyH.cons rfl (fun K hK => ?_) AllReadyH.nil
        go_simp
        go_at_call 19
        refine (r11bal_any _ E F D _ (e_r.out.on hH1.hb) (by omega) (by omega) (by omega)).mono ?_
        rintro e w11 ⟨rfl, hd11⟩
        go_wp2_with fail
        refine hK.out _ _ (hH1.on hd11) (fun hH2 => ?_)
        clear hK K
        refine wpAnyH_take (i := 12) (v := .bool false) rfl (by kernel_rfl) (by kernel_rfl) (by kernel_rfl) (fun _ _ _ h => h) (yk_bin (by kernel_rfl) _ _ _ _ _ rfl (.agg #[.int .u64 (limb (ng E (keyB F D)) 0), .int .u64 (limb (ng E (keyB F D)) 1), .int .u64 (limb (ng E (keyB F D)) 2), .int .u64 (limb (ng E (keyB F D)) 3)]) (.agg #[.int .u64 (limb (ng E (keyB F D)) 0), .int .u64 (limb (ng E (keyB F D)) 1), .int .u64 (limb (ng E (keyB F D)) 2), .int .u64 (limb (ng E (keyB F D)) 3)]) (by kernel_rfl) (by kernel_rfl) _ (fun w' hw' => by have h0 := eqWd (ng E (keyB F D)) w'; go_simp)) hH2 ?_
        refine wpAnyH_take (i := 13) (v := .bool false) rfl (by kernel_rfl) (by kernel_rfl) (by kernel_rfl) (fun _ _ _ h => h) (yk_move (by kernel_rfl) _ rfl _ (by kernel_rfl)) hH2 ?_
        refine wpAnyH_take (i := 14) (v := .agg #[.slice qd E.length cd]) rfl (by kernel_rfl) (by kernel_rfl) (by kernel_rfl) (fun _ _ _ h => h) (yk_load (by kernel_rfl) _ _ rfl (.pointer (some ⟨wD.heap.size, 0, none⟩)) (by kernel_rfl) _ (fun w' hw' => by have c0 := (hw'.bl _ (.head _)).cell 0; go_simp)) hH2 ?_
        refine wpAnyH_take (i := 15) (v := .pointer (some ⟨w.heap.size, 3, none⟩)) rfl (by kernel_rfl) (by kernel_rfl) (by kernel_rfl) (fun _ _ _ h => h) (yk_faB (by kernel_rfl) _ _ _ rfl (.pointer (some ⟨w.heap.size, 0, none⟩)) (by kernel_rfl) _ (fun w' hw' => by go_simp)) hH2 ?_
        refine wpAnyH_take (i := 16) (v := .string D) rfl (by kernel_rfl) (by kernel_rfl) (by kernel_rfl) (fun _ _ _ h => h) (yk_load (by kernel_rfl) _ _ rfl (.pointer (some ⟨w.heap.size, 3, none⟩)) (by kernel_rfl) _ (fun w' hw' => by have c3 := (hw'.bl _ (.tail _ (.head _))).cell 3; go_simp)) hH2 ?_
        refine wpAnyH_take (i := 18) (v := vr) rfl (by kernel_rfl) (by kernel_rfl) (by kernel_rfl) (fun _ _ _ h => h) (yk_move (by kernel_rfl) _ rfl _ (by kernel_rfl)) hH2 ?_
        refine wpAnyH_take (i := 19) (v := .pointer (some ⟨w.heap.size, 3, none⟩)) rfl (by kernel_rfl) (by kernel_rfl) (by kernel_rfl) (fun _ _ _ h => h) (yk_faB (by kernel_rfl) _ _ _ rfl (.pointer (some ⟨w.heap.size, 0, none⟩)) (by kernel_rfl) _ (fun w' hw' => by go_simp)) hH2 ?_
        refine wpAnyH_take (i := 20) (v := .string D) rfl (by kernel_rfl) (by kernel_rfl) (by kernel_rfl) (fun _ _ _ h => h) (yk_load (by kernel_rfl) _ _ rfl (.pointer (some ⟨w.heap.size, 3, none⟩)) (by kernel_rfl) _ (fun w' hw' => by have c3 := (hw'.bl _ (.tail _ (.head _))).cell 3; go_simp)) hH2 ?_
        refine wpAnyH_ready (rs := [17]) (by kernel_rfl) (by simp) ?_
        refine AllReadyH.cons rfl (fun K hK => ?_) AllReadyH.nil
        go_simp
        go_at_call 12
        refine (bsup_any _ E D _ (e_d.out.on hH2.hb) Hos.out (by omega) (by omega)).mono ?_
        rintro e w17 ⟨rfl, hd17⟩
        go_wp2_with fail
        refine hK.out _ _ (hH2.on hd17) (fun hH3 => ?_)
        clear hK K
        refine wpAnyH_ready (rs := [21]) (by kernel_rfl) (by simp) ?_
        refine AllReadyH.cons rfl (fun K hK => ?_) AllReadyH.nil
        go_simp
        go_at_call 20
        refine (r11sup_any _ E D _ (e_r.out.on hH3.hb) (by omega) (by omega)).mono ?_
        rintro e w21 ⟨rfl, hd21⟩
        go_wp2_with fail
        refine hK.out _ _ (hH3.on hd21) (fun hH4 => ?_)
        clear hK K
        refine wpAnyH_take (i := 22) (v := .bool false) rfl (by kernel_rfl) (by kernel_rfl) (by kernel_rfl) (fun _ _ _ h => h) (yk_bin (by kernel_rfl) _ _ _ _ _ rfl (.agg #[.int .u64 (limb (ng E (totB D)) 0), .int .u64 (limb (ng E (totB D)) 1), .int .u64 (limb (ng E (totB D)) 2), .int .u64 (limb (ng E (totB D)) 3)]) (.agg #[.int .u64 (limb (ng E (totB D)) 0), .int .u64 (limb (ng E (totB D)) 1), .int .u64 (limb (ng E (totB D)) 2), .int .u64 (limb (ng E (totB D)) 3)]) (by kernel_rfl) (by kernel_rfl) _ (fun w' hw' => by have h0 := eqWd (ng E (totB D)) w'; go_simp)) hH4 ?_
        refine wpAnyH_take (i := 23) (v := .bool false) rfl (by kernel_rfl) (by kernel_rfl) (by kernel_rfl) (fun _ _ _ h => h) (yk_pick (by kernel_rfl) _ _ _ rfl false (by kernel_rfl) _ (by kernel_rfl)) hH4 ?_
        refine wpAnyH_done (by kernel_rfl) ?_ _
        have hB := hH4.hb
        replace k_p := k_p.on hB
        replace k_d := k_d.on hB
        replace e_r := Lib.hid (e_r.out.on hB)
        replace e_d := Lib.hid (e_d.out.on hB)
        replace BB := BW_on BB hB
        clear hB hH0 hH1 hH2 hH3 hH4 hd5 hd11 hd17 hd21
        rcases hR : opL (bits .and .i64 pk 3) E F T D m with ⟨x, N⟩
        have HO := fun w v u hv hu => of11_any v u E E pk F T D m praw psm w hv hu Hos.out Hos.out (by omega) (by omega) hm
        rw [hR] at HO
        replace HO := Lib.hid HO
        have hinv := op_inv Hos.out (bits .and .i64 pk 3) F T D m
        rw [hR] at hinv
        have hNl : N.length ≤ E.length + 2 := hinv.2
        clear hinv hR
        have c_d := fun i => k_d.cell i
        have c_p := fun i => k_p.cell i
        go_wp2_with fail
        refine (HO.out _ _ _ e_d.out e_r.out).mono ?_
        rintro e w7 ⟨qx, cx, vy, rfl, hex, hey, hb⟩
        clear c_d c_p
        replace k_p := k_p.on hb
        replace k_d := k_d.on hb
        replace e_r := Lib.hid (e_r.out.on hb)
        replace e_d := Lib.hid (e_d.out.on hb)
        replace BB := BW_on BB hb
        replace k_p := k_p.on (BW_alloc (BW_refl _) (.cells #[.slice qx N.length cx] 26))
        replace k_d := k_d.on (BW_alloc (BW_refl _) (.cells #[.slice qx N.length cx] 26))
        replace e_r := Lib.hid (e_r.out.on (BW_alloc (BW_refl _) (.cells #[.slice qx N.length cx] 26)))
        replace e_d := Lib.hid (e_d.out.on (BW_alloc (BW_refl _) (.cells #[.slice qx N.length cx] 26)))
        replace BB := BW_on BB (BW_alloc (BW_refl _) (.cells #[.slice qx N.length cx] 26))
        have k_x := blk1 w7 26 #[.slice qx N.length cx]
        have e_x := Lib.hid (hex.on (BW_alloc (BW_refl _) (.cells #[.slice qx N.length cx] 26)))
        have e_y := Lib.hid (hey.on (BW_alloc (BW_refl _) (.cells #[.slice qx N.length cx] 26)))
        clear hex hey hb HO
        have c_x := fun i => k_x.cell i
        go_wp2_with fail
        refine (all_any _ N _ e_x.out (by omega)).mono ?_
        rintro e w8 ⟨va, rfl, hown, hb⟩
        clear c_x
        replace k_p := k_p.on hb
        replace k_d := k_d.on hb
        replace k_x := k_x.on hb
        replace e_r := Lib.hid (e_r.out.on hb)
        replace e_d := Lib.hid (e_d.out.on hb)
        replace e_x := Lib.hid (e_x.out.on hb)
        replace e_y := Lib.hid (e_y.out.on hb)
        replace BB := BW_on BB hb
        have e_a : Hid (Ents w8 va N) := own_ents hown
        clear hown hb
        go_wp2_with fail
        refine (rsame_any _ _ N N _ e_a.out e_y.out (by omega) (by omega)).mono ?_
        rintro e w9 ⟨rfl, hb⟩
        replace k_p := k_p.on hb
        replace k_d := k_d.on hb
        replace k_x := k_x.on hb
        replace e_r := Lib.hid (e_r.out.on hb)
        replace e_d := Lib.hid (e_d.out.on hb)
        replace e_x := Lib.hid (e_x.out.on hb)
        replace e_y := Lib.hid (e_y.out.on hb)
        replace BB := BW_on BB hb
        rw [decide_eq_true rfl]
        clear hb
        go_wp2_with fail
        go_ret
        exact ⟨rfl, BB⟩
      · have hMl : M.length ≤ 8 := by omega
        have hme : Hid (Ents wr u8 M) := own_ents (by rw [hM]; exact hown)
        replace k_p := k_p.below hbw hgp
        replace BB := BB.trans (hbw.mono (Nat.le_of_lt hgp))
        clear hown hbw hM Hfl Hfp hi0 hz0 hz1 hz2
        have hol := ofL_len M
        obtain ⟨hos, _⟩ := ofL_inv M
        have Hos := Lib.hid hos
        have hEl : (ofL M).length ≤ 8 := by omega
        clear hos hol
        go_wp2_with fail
        refine (drof_any _ M _ hme.out (by omega)).mono ?_
        rintro e wR ⟨vr, rfl, her, hb⟩
        replace k_p := k_p.on hb
        replace BB := BW_on BB hb
        have hme4 := Lib.hid (hme.out.on hb)
        have e_r := Lib.hid her
        clear hb her hme
        go_wp2_with fail
        refine (of_any _ M _ hme4.out (by omega)).mono ?_
        rintro e wD ⟨vd, rfl, hed, hb⟩
        replace k_p := k_p.on hb
        replace e_r := Lib.hid (e_r.out.on hb)
        replace BB := BW_on BB hb
        obtain ⟨qd, cd, rfl⟩ := hed.len
        clear hme4
        generalize ofL M = E at *
        have e_d := Lib.hid hed
        clear hed hb
        go_upto_region 19 with (fail)
        change Code.wp _ _ _ _ (wD.alloc (.cells #[.slice qd E.length cd] 26))
        replace k_p := k_p.on (BW_alloc (BW_refl _) (.cells #[.slice qd E.length cd] 26))
        replace e_r := Lib.hid (e_r.out.on (BW_alloc (BW_refl _) (.cells #[.slice qd E.length cd] 26)))
        replace e_d := Lib.hid (e_d.out.on (BW_alloc (BW_refl _) (.cells #[.slice qd E.length cd] 26)))
        replace BB := BW_on BB (BW_alloc (BW_refl _) (.cells #[.slice qd E.length cd] 26))
        have k_d := blk1 wD 26 #[.slice qd E.length cd]
        generalize wD.alloc (.cells #[.slice qd E.length cd] 26) = W6 at *
        refine wp_region_held_drew (S := BxS W6 [(wD.heap.size, 26, #[.slice qd E.length cd]), (w.heap.size, 35, #[.int .i64 pk, .string F, .string T, .string D, .int .u64 (limb m 0), .int .u64 (limb m 1), .int .u64 (limb m 2), .int .u64 (limb m 3), .bool praw, .bool psm])]) (by kernel_rfl) ((((BxS.nil (BW_refl W6)).cons k_p).cons k_d)).drew (fun hH0 => ?_)
        refine wpAnyH_take (i := 0) (v := .agg #[.slice qd E.length cd]) rfl (by kernel_rfl) (by kernel_rfl) (by kernel_rfl) (fun _ _ _ h => h) (yk_load (by kernel_rfl) _ _ rfl (.pointer (some ⟨wD.heap.size, 0, none⟩)) (by kernel_rfl) _ (fun w' hw' => by have c0 := (hw'.bl _ (.head _)).cell 0; go_simp)) hH0 ?_
        refine wpAnyH_take (i := 1) (v := .pointer (some ⟨w.heap.size, 1, none⟩)) rfl (by kernel_rfl) (by kernel_rfl) (by kernel_rfl) (fun _ _ _ h => h) (yk_faB (by kernel_rfl) _ _ _ rfl (.pointer (some ⟨w.heap.size, 0, none⟩)) (by kernel_rfl) _ (fun w' hw' => by go_simp)) hH0 ?_
        refine wpAnyH_take (i := 2) (v := .string F) rfl (by kernel_rfl) (by kernel_rfl) (by kernel_rfl) (fun _ _ _ h => h) (yk_load (by kernel_rfl) _ _ rfl (.pointer (some ⟨w.heap.size, 1, none⟩)) (by kernel_rfl) _ (fun w' hw' => by have c1 := (hw'.bl _ (.tail _ (.head _))).cell 1; go_simp)) hH0 ?_
        refine wpAnyH_take (i := 3) (v := .pointer (some ⟨w.heap.size, 3, none⟩)) rfl (by kernel_rfl) (by kernel_rfl) (by kernel_rfl) (fun _ _ _ h => h) (yk_faB (by kernel_rfl) _ _ _ rfl (.pointer (some ⟨w.heap.size, 0, none⟩)) (by kernel_rfl) _ (fun w' hw' => by go_simp)) hH0 ?_
        refine wpAnyH_take (i := 4) (v := .string D) rfl (by kernel_rfl) (by kernel_rfl) (by kernel_rfl) (fun _ _ _ h => h) (yk_load (by kernel_rfl) _ _ rfl (.pointer (some ⟨w.heap.size, 3, none⟩)) (by kernel_rfl) _ (fun w' hw' => by have c3 := (hw'.bl _ (.tail _ (.head _))).cell 3; go_simp)) hH0 ?_
        refine wpAnyH_take (i := 6) (v := vr) rfl (by kernel_rfl) (by kernel_rfl) (by kernel_rfl) (fun _ _ _ h => h) (yk_move (by kernel_rfl) _ rfl _ (by kernel_rfl)) hH0 ?_
        refine wpAnyH_take (i := 7) (v := .pointer (some ⟨w.heap.size, 1, none⟩)) rfl (by kernel_rfl) (by kernel_rfl) (by kernel_rfl) (fun _ _ _ h => h) (yk_faB (by kernel_rfl) _ _ _ rfl (.pointer (some ⟨w.heap.size, 0, none⟩)) (by kernel_rfl) _ (fun w' hw' => by go_simp)) hH0 ?_
        refine wpAnyH_take (i := 8) (v := .string F) rfl (by kernel_rfl) (by kernel_rfl) (by kernel_rfl) (fun _ _ _ h => h) (yk_load (by kernel_rfl) _ _ rfl (.pointer (some ⟨w.heap.size, 1, none⟩)) (by kernel_rfl) _ (fun w' hw' => by have c1 := (hw'.bl _ (.tail _ (.head _))).cell 1; go_simp)) hH0 ?_
        refine wpAnyH_take (i := 9) (v := .pointer (some ⟨w.heap.size, 3, none⟩)) rfl (by kernel_rfl) (by kernel_rfl) (by kernel_rfl) (fun _ _ _ h => h) (yk_faB (by kernel_rfl) _ _ _ rfl (.pointer (some ⟨w.heap.size, 0, none⟩)) (by kernel_rfl) _ (fun w' hw' => by go_simp)) hH0 ?_
        refine wpAnyH_take (i := 10) (v := .string D) rfl (by kernel_rfl) (by kernel_rfl) (by kernel_rfl) (fun _ _ _ h => h) (yk_load (by kernel_rfl) _ _ rfl (.pointer (some ⟨w.heap.size, 3, none⟩)) (by kernel_rfl) _ (fun w' hw' => by have c3 := (hw'.bl _ (.tail _ (.head _))).cell 3; go_simp)) hH0 ?_
        refine wpAnyH_ready (rs := [5]) (by kernel_rfl) (by simp) ?_
        refine AllReadyH.cons rfl (fun K hK => ?_) AllReadyH.nil
        go_simp
        go_at_call 11
        refine (bbal_any _ E F D _ (e_d.out.on hH0.hb) Hos.out (by omega) (by omega) (by omega)).mono ?_
        rintro e w5 ⟨rfl, hd5⟩
        go_wp2_with fail
        refine hK.out _ _ (hH0.on hd5) (fun hH1 => ?_)
        clear hK K
        refine wpAnyH_ready (rs := [11]) (by kernel_rfl) (by simp) ?_
        refine AllReadyH.cons rfl (fun K hK => ?_) AllReadyH.nil
        go_simp
        go_at_call 19
        refine (r11bal_any _ E F D _ (e_r.out.on hH1.hb) (by omega) (by omega) (by omega)).mono ?_
        rintro e w11 ⟨rfl, hd11⟩
        go_wp2_with fail
        refine hK.out _ _ (hH1.on hd11) (fun hH2 => ?_)
        clear hK K
        refine wpAnyH_take (i := 12) (v := .bool false) rfl (by kernel_rfl) (by kernel_rfl) (by kernel_rfl) (fun _ _ _ h => h) (yk_bin (by kernel_rfl) _ _ _ _ _ rfl (.agg #[.int .u64 (limb (ng E (keyB F D)) 0), .int .u64 (limb (ng E (keyB F D)) 1), .int .u64 (limb (ng E (keyB F D)) 2), .int .u64 (limb (ng E (keyB F D)) 3)]) (.agg #[.int .u64 (limb (ng E (keyB F D)) 0), .int .u64 (limb (ng E (keyB F D)) 1), .int .u64 (limb (ng E (keyB F D)) 2), .int .u64 (limb (ng E (keyB F D)) 3)]) (by kernel_rfl) (by kernel_rfl) _ (fun w' hw' => by have h0 := eqWd (ng E (keyB F D)) w'; go_simp)) hH2 ?_
        refine wpAnyH_take (i := 13) (v := .bool false) rfl (by kernel_rfl) (by kernel_rfl) (by kernel_rfl) (fun _ _ _ h => h) (yk_move (by kernel_rfl) _ rfl _ (by kernel_rfl)) hH2 ?_
        refine wpAnyH_take (i := 14) (v := .agg #[.slice qd E.length cd]) rfl (by kernel_rfl) (by kernel_rfl) (by kernel_rfl) (fun _ _ _ h => h) (yk_load (by kernel_rfl) _ _ rfl (.pointer (some ⟨wD.heap.size, 0, none⟩)) (by kernel_rfl) _ (fun w' hw' => by have c0 := (hw'.bl _ (.head _)).cell 0; go_simp)) hH2 ?_
        refine wpAnyH_take (i := 15) (v := .pointer (some ⟨w.heap.size, 3, none⟩)) rfl (by kernel_rfl) (by kernel_rfl) (by kernel_rfl) (fun _ _ _ h => h) (yk_faB (by kernel_rfl) _ _ _ rfl (.pointer (some ⟨w.heap.size, 0, none⟩)) (by kernel_rfl) _ (fun w' hw' => by go_simp)) hH2 ?_
        refine wpAnyH_take (i := 16) (v := .string D) rfl (by kernel_rfl) (by kernel_rfl) (by kernel_rfl) (fun _ _ _ h => h) (yk_load (by kernel_rfl) _ _ rfl (.pointer (some ⟨w.heap.size, 3, none⟩)) (by kernel_rfl) _ (fun w' hw' => by have c3 := (hw'.bl _ (.tail _ (.head _))).cell 3; go_simp)) hH2 ?_
        refine wpAnyH_take (i := 18) (v := vr) rfl (by kernel_rfl) (by kernel_rfl) (by kernel_rfl) (fun _ _ _ h => h) (yk_move (by kernel_rfl) _ rfl _ (by kernel_rfl)) hH2 ?_
        refine wpAnyH_take (i := 19) (v := .pointer (some ⟨w.heap.size, 3, none⟩)) rfl (by kernel_rfl) (by kernel_rfl) (by kernel_rfl) (fun _ _ _ h => h) (yk_faB (by kernel_rfl) _ _ _ rfl (.pointer (some ⟨w.heap.size, 0, none⟩)) (by kernel_rfl) _ (fun w' hw' => by go_simp)) hH2 ?_
        refine wpAnyH_take (i := 20) (v := .string D) rfl (by kernel_rfl) (by kernel_rfl) (by kernel_rfl) (fun _ _ _ h => h) (yk_load (by kernel_rfl) _ _ rfl (.pointer (some ⟨w.heap.size, 3, none⟩)) (by kernel_rfl) _ (fun w' hw' => by have c3 := (hw'.bl _ (.tail _ (.head _))).cell 3; go_simp)) hH2 ?_
        refine wpAnyH_ready (rs := [17]) (by kernel_rfl) (by simp) ?_
        refine AllReadyH.cons rfl (fun K hK => ?_) AllReadyH.nil
        go_simp
        go_at_call 12
        refine (bsup_any _ E D _ (e_d.out.on hH2.hb) Hos.out (by omega) (by omega)).mono ?_
        rintro e w17 ⟨rfl, hd17⟩
        go_wp2_with fail
        refine hK.out _ _ (hH2.on hd17) (fun hH3 => ?_)
        clear hK K
        refine wpAnyH_ready (rs := [21]) (by kernel_rfl) (by simp) ?_
        refine AllReadyH.cons rfl (fun K hK => ?_) AllReadyH.nil
        go_simp
        go_at_call 20
        refine (r11sup_any _ E D _ (e_r.out.on hH3.hb) (by omega) (by omega)).mono ?_
        rintro e w21 ⟨rfl, hd21⟩
        go_wp2_with fail
        refine hK.out _ _ (hH3.on hd21) (fun hH4 => ?_)
        clear hK K
        refine wpAnyH_take (i := 22) (v := .bool false) rfl (by kernel_rfl) (by kernel_rfl) (by kernel_rfl) (fun _ _ _ h => h) (yk_bin (by kernel_rfl) _ _ _ _ _ rfl (.agg #[.int .u64 (limb (ng E (totB D)) 0), .int .u64 (limb (ng E (totB D)) 1), .int .u64 (limb (ng E (totB D)) 2), .int .u64 (limb (ng E (totB D)) 3)]) (.agg #[.int .u64 (limb (ng E (totB D)) 0), .int .u64 (limb (ng E (totB D)) 1), .int .u64 (limb (ng E (totB D)) 2), .int .u64 (limb (ng E (totB D)) 3)]) (by kernel_rfl) (by kernel_rfl) _ (fun w' hw' => by have h0 := eqWd (ng E (totB D)) w'; go_simp)) hH4 ?_
        refine wpAnyH_take (i := 23) (v := .bool false) rfl (by kernel_rfl) (by kernel_rfl) (by kernel_rfl) (fun _ _ _ h => h) (yk_pick (by kernel_rfl) _ _ _ rfl false (by kernel_rfl) _ (by kernel_rfl)) hH4 ?_
        refine wpAnyH_done (by kernel_rfl) ?_ _
        have hB := hH4.hb
        replace k_p := k_p.on hB
        replace k_d := k_d.on hB
        replace e_r := Lib.hid (e_r.out.on hB)
        replace e_d := Lib.hid (e_d.out.on hB)
        replace BB := BW_on BB hB
        clear hB hH0 hH1 hH2 hH3 hH4 hd5 hd11 hd17 hd21
        rcases hR : opL (bits .and .i64 pk 3) E F T D m with ⟨x, N⟩
        have HO := fun w v u hv hu => of11_any v u E E pk F T D m praw psm w hv hu Hos.out Hos.out (by omega) (by omega) hm
        rw [hR] at HO
        replace HO := Lib.hid HO
        have hinv := op_inv Hos.out (bits .and .i64 pk 3) F T D m
        rw [hR] at hinv
        have hNl : N.length ≤ E.length + 2 := hinv.2
        clear hinv hR
        have c_d := fun i => k_d.cell i
        have c_p := fun i => k_p.cell i
        go_wp2_with fail
        refine (HO.out _ _ _ e_d.out e_r.out).mono ?_
        rintro e w7 ⟨qx, cx, vy, rfl, hex, hey, hb⟩
        clear c_d c_p
        replace k_p := k_p.on hb
        replace k_d := k_d.on hb
        replace e_r := Lib.hid (e_r.out.on hb)
        replace e_d := Lib.hid (e_d.out.on hb)
        replace BB := BW_on BB hb
        replace k_p := k_p.on (BW_alloc (BW_refl _) (.cells #[.slice qx N.length cx] 26))
        replace k_d := k_d.on (BW_alloc (BW_refl _) (.cells #[.slice qx N.length cx] 26))
        replace e_r := Lib.hid (e_r.out.on (BW_alloc (BW_refl _) (.cells #[.slice qx N.length cx] 26)))
        replace e_d := Lib.hid (e_d.out.on (BW_alloc (BW_refl _) (.cells #[.slice qx N.length cx] 26)))
        replace BB := BW_on BB (BW_alloc (BW_refl _) (.cells #[.slice qx N.length cx] 26))
        have k_x := blk1 w7 26 #[.slice qx N.length cx]
        have e_x := Lib.hid (hex.on (BW_alloc (BW_refl _) (.cells #[.slice qx N.length cx] 26)))
        have e_y := Lib.hid (hey.on (BW_alloc (BW_refl _) (.cells #[.slice qx N.length cx] 26)))
        clear hex hey hb HO
        have c_x := fun i => k_x.cell i
        go_wp2_with fail
        refine (all_any _ N _ e_x.out (by omega)).mono ?_
        rintro e w8 ⟨va, rfl, hown, hb⟩
        clear c_x
        replace k_p := k_p.on hb
        replace k_d := k_d.on hb
        replace k_x := k_x.on hb
        replace e_r := Lib.hid (e_r.out.on hb)
        replace e_d := Lib.hid (e_d.out.on hb)
        replace e_x := Lib.hid (e_x.out.on hb)
        replace e_y := Lib.hid (e_y.out.on hb)
        replace BB := BW_on BB hb
        have e_a : Hid (Ents w8 va N) := own_ents hown
        clear hown hb
        go_wp2_with fail
        refine (rsame_any _ _ N N _ e_a.out e_y.out (by omega) (by omega)).mono ?_
        rintro e w9 ⟨rfl, hb⟩
        replace k_p := k_p.on hb
        replace k_d := k_d.on hb
        replace k_x := k_x.on hb
        replace e_r := Lib.hid (e_r.out.on hb)
        replace e_d := Lib.hid (e_d.out.on hb)
        replace e_x := Lib.hid (e_x.out.on hb)
        replace e_y := Lib.hid (e_y.out.on hb)
        replace BB := BW_on BB hb
        rw [decide_eq_true rfl]
        clear hb
        go_wp2_with fail
        go_ret
        exact ⟨rfl, BB⟩
end
set_option maxRecDepth 100000 in
theorem l11any_lifted (os : Os) (started : os.Started) (H : Type) (enc : TypeId × Value → H) :
    ReturnsInHanded {} Try.checked os 4 .any (Rows.bankAnySpec.pre6 enc Try.prog Try.f4 Rows.bankAnyRow.domain false) (Rows.bankAnySpec.post enc Try.prog Try.f4 false true false false) := by
  refine law_lifted (C := Try.checked) (tb := 4) (by kernel_rfl) started (by kernel_rfl) Try.func4
    (ChangeSpec.witness6 (enc := enc) (C := Try.checked) false ⟨#[], #[.slice none 0 0, .slice none 0 0, .agg #[.int .i64 0, .string ⟨#[]⟩, .string ⟨#[]⟩, .string ⟨#[]⟩, .int .u64 0, .int .u64 0, .int .u64 0, .int .u64 0, .bool false, .bool false]], []⟩ 8 (by kernel_rfl) (by kernel_rfl) (by kernel_rfl) (by kernel_rfl))
    (by kernel_rfl) (by kernel_rfl) (by kernel_rfl) Try.underlying4 rfl ?_ ?_
  · intro ds hd
    have hp : Try.f4.params.toList.length = 3 := by kernel_rfl
    rw [hp] at hd
    match ds, hd with
    | [d, d', d''], _ => rfl
  · intro W base args ds ps hval hA _ _
    have hval' : ∀ (j : Nat) t v, Try.f4.params[j]? = some t → args[j]? = some v → Value.okWide Try.prog W .any base t v := hval
    have hA' : DataW.TrodAll enc Try.prog W 0 (fun _ => true) true Try.f4.params.toList args.toList ds ps := hA
    rw [Try.params4] at hA' hval'
    obtain ⟨v0, v1, v2, d0, d1, d2, p0, p1, p2, rfl, rfl, rfl, h0, h1, h2⟩ := trodAll_three hA'
    obtain ⟨L, hs0, hl0⟩ := open_ents (hval' 0 24 v0 rfl rfl) h0
    obtain ⟨PL, hs1, hl1⟩ := open_rint (hval' 1 45 v1 rfl rfl) h1
    obtain ⟨o, rfl⟩ := open_op11 h2 (okWide_op11 (hval' 2 35 v2 rfl rfl))
    obtain ⟨pk, pf, pt, pd, pn, praw, psm, hpn⟩ := o
    exact l11any_any v0 v1 L PL pk pf pt pd pn praw psm hpn W (Lib.hid hs0) hl0 (Lib.hid hs1) hl1
theorem BankAny_holds : Rows.BankAnySaid :=
  OpenClaim.holds_of_wide 4 Try.f4 rfl rfl rfl rfl rfl rfl rfl ⟨rfl, rfl, rfl, rfl, rfl⟩ rfl rfl rfl rfl rfl (by kernel_rfl) Try.func4 (by kernel_rfl)
    (of_decide_eq_true (by kernel_rfl)) (by unfold Func.isWrapper; first | (rw [if_pos (by decide +kernel)]; kernel_rfl) | (rw [if_neg (by decide +kernel)]; exact ⟨rfl, rfl⟩))
    (fun os started H enc _ => l11any_lifted os started H enc)
end Go.Proofs.Ytiaflghhfcnjlaa

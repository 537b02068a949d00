/- The law BankBack: what is minted and burned again leaves the map as it was; what is moved there and back does: for every input. -/
import Derived.Test.YtiaflghhfcnjlaaBp
import Derived.Test.YtiaflghhfcnjlaaBo
import Derived.Test.YtiaflghhfcnjlaaBr
import Derived.Test.YtiaflghhfcnjlaaBy
import Derived.Test.YtiaflghhfcnjlaaBw
namespace Go.Proofs.Ytiaflghhfcnjlaa
open Go.ChangeShapes Go.WideShapes Go.ChangeAt Go.RowKit Go.WideElems
section
attribute [local go_sem ↓] Go.wp_at_zero Go.wp_at_succ
theorem op_bko {E : List Ent} (hs : Srt E) (hc : BkO E) {k : Int} {f t d : ByteArray} {n : Nat} {A : List Ent} (h : opL k E f t d n = (0, A)) : BkO A := by
  unfold opL at h
  by_cases h2 : k = 2
  · rw [if_pos h2] at h; exact hc.burn hs h
  · rw [if_neg h2] at h
    by_cases h3 : k = 3
    · rw [if_pos h3] at h; exact hc.move hs h
    · rw [if_neg h3] at h; exact hc.mint hs h
set_option maxHeartbeats 16000000 in
set_option maxRecDepth 100000 in
theorem l11back_any (p0 : Option Addr) (cap : Nat) (L : List Op11T) (pk : Int) (pf pt pd : ByteArray) (pn : Nat) (praw psm : Bool) (hpn : W256 pn) (w : World) (hL : L.length ≤ 9223372036854775807) (Hop : Hid (0 < L.length → ∃ g off, p0 = some ⟨g, off, none⟩ ∧ Op11C w g off L)) :
    Calls Try.prog 5 #[.slice p0 L.length cap, .agg #[.int .i64 pk, .string pf, .string pt, .string pd, .int .u64 (limb pn 0), .int .u64 (limb pn 1), .int .u64 (limb pn 2), .int .u64 (limb pn 3), .bool praw, .bool psm]] w fun e w' => e = .returned (.bool true) ∧ Below w.heap.size w w' := by
  have k_p := blk1 w 35 #[.int .i64 pk, .string pf, .string pt, .string pd, .int .u64 (limb pn 0), .int .u64 (limb pn 1), .int .u64 (limb pn 2), .int .u64 (limb pn 3), .bool praw, .bool psm]
  have BB := BW_alloc (BW_refl w) (.cells #[.int .i64 pk, .string pf, .string pt, .string pd, .int .u64 (limb pn 0), .int .u64 (limb pn 1), .int .u64 (limb pn 2), .int .u64 (limb pn 3), .bool praw, .bool psm] 35)
  go_enter Try.func5, Try.ntmps5
  go_wp2_with fail
  refine (awake11_any _).mono ?_
  rintro e w1 ⟨rfl, hb1⟩
  replace k_p := k_p.on hb1
  replace BB := BW_on BB hb1
  have hg01 : w.heap.size < w1.heap.size := k_p.lt
  have hwd := BB.size
  clear hb1
  go_wp2_with fail
  have k_d := blk1 w1 26 #[.slice none 0 0]
  replace k_p := k_p.alloc (.cells #[.slice none 0 0] 26)
  replace BB := BW_alloc BB (.cells #[.slice none 0 0] 26)
  go_loopw [7] (fun i wr => ∃ (k : Nat) (q : Option Addr) (c : Nat) (E : List Ent), k ≤ L.length ∧ k ≤ 10 ∧ i = .int .i64 (k : Int) ∧ Hid (Srt E) ∧ Hid (BkO E) ∧ E.length ≤ 2 * k ∧ Hid (Ents wr (.slice q E.length c) E) ∧ Blk wr w1.heap.size 26 #[.slice q E.length c] ∧ Blk wr w.heap.size 35 #[.int .i64 pk, .string pf, .string pt, .string pd, .int .u64 (limb pn 0), .int .u64 (limb pn 1), .int .u64 (limb pn 2), .int .u64 (limb pn 3), .bool praw, .bool psm] ∧ Below w.heap.size w wr) (fun i _ => (11 - intOf i).toNat)
  case atStart => exact ⟨0, none, 0, [], by omega, by omega, rfl, List.Pairwise.nil, bko_nil, by decide, Ents.nil _, k_d, k_p, BB⟩
  case round =>
    clear k_p k_d BB
    obtain ⟨k, q, c, E, hk, hk10, rfl, hs, hc, hl, e_d, k_d, k_p, BB⟩ := hrel
    by_cases hlt : k < L.length ∧ k < 10
    · obtain ⟨hlt1, hlt2⟩ := hlt
      obtain ⟨g, off, rfl, hop⟩ := Hop.out (by omega)
      have ho := (hop.on BB) k hlt1
      have hk1 : (k : Int) < (L.length : Int) := by omega
      have hk2 : (k : Int) < 10 := by omega
      have hk3 : wrap64 ((k : Int) + 1) = (k : Int) + 1 := by unfold wrap64; omega
      clear hop
      obtain ⟨o, hoe⟩ : ∃ o, o = L[k] := ⟨_, rfl⟩
      rw [← hoe] at ho
      clear hoe
      obtain ⟨ok, of, ot, od, on, oraw, osm, ohn⟩ := o
      have o0 : wr.cell? ⟨g, off + k * 10, none⟩ = some (.int .i64 ok) := ho 0 (by decide)
      have o1 : wr.cell? ⟨g, off + k * 10 + 1, none⟩ = some (.string of) := ho 1 (by decide)
      have o2 : wr.cell? ⟨g, off + k * 10 + 2, none⟩ = some (.string ot) := ho 2 (by decide)
      have o3 : wr.cell? ⟨g, off + k * 10 + 3, none⟩ = some (.string od) := ho 3 (by decide)
      have o4 : wr.cell? ⟨g, off + k * 10 + 4, none⟩ = some (.int .u64 (limb on 0)) := ho 4 (by decide)
      have o5 : wr.cell? ⟨g, off + k * 10 + 5, none⟩ = some (.int .u64 (limb on 1)) := ho 5 (by decide)
      have o6 : wr.cell? ⟨g, off + k * 10 + 6, none⟩ = some (.int .u64 (limb on 2)) := ho 6 (by decide)
      have o7 : wr.cell? ⟨g, off + k * 10 + 7, none⟩ = some (.int .u64 (limb on 3)) := ho 7 (by decide)
      have o8 : wr.cell? ⟨g, off + k * 10 + 8, none⟩ = some (.bool oraw) := ho 8 (by decide)
      have o9 : wr.cell? ⟨g, off + k * 10 + 9, none⟩ = some (.bool osm) := ho 9 (by decide)
      obtain ⟨m, hm, hsm⟩ := small11_any ok of ot od on oraw osm ohn
      have zf := smT_size oraw 1 of
      have zt := smT_size oraw 1 ot
      have zd := smT_size oraw 3 od
      generalize smT oraw 1 of = F at *
      generalize smT oraw 1 ot = T at *
      generalize smT oraw 3 od = D at *
      have Hsm := Lib.hid hsm
      clear hsm ho
      rcases hR : opL (bits .and .i64 ok 3) E F T D m with ⟨x, M⟩
      rcases hR2 : opL (bits .and .i64 ok 3) [] F T D m with ⟨y, M2⟩
      have HO := fun w v hv => of11_any v (.slice none 0 0) E [] ok F T D m oraw osm w hv (Ents.nil w) hs.out List.Pairwise.nil (by omega) (by decide) hm
      rw [hR, hR2] at HO
      replace HO := Lib.hid HO
      have hinv := op_inv hs.out (bits .and .i64 ok 3) F T D m
      rw [hR] at hinv
      have hsM : Hid (Srt M) := hinv.1
      have hlM : M.length ≤ E.length + 2 := hinv.2
      have hcM : x = 0 → Hid (BkO M) := fun hx => by subst hx; exact op_bko hs.out hc.out hR
      clear hinv hR hR2
      go_upto_region 6 with (fail)
      have hszd := k_d.lt
      refine wp_region_held_drew (S := BxS wr [(w1.heap.size, 26, #[.slice q E.length c])]) (by kernel_rfl) (((BxS.nil (BW_refl wr)).cons k_d)).drew (fun hH0 => ?_)
      refine wpAnyH_take (i := 0) (v := .slice (some ⟨g, off, none⟩) L.length cap) rfl (by kernel_rfl) (by kernel_rfl) (by kernel_rfl) (fun _ _ _ h => h) (yk_move (by kernel_rfl) _ rfl _ (by kernel_rfl)) hH0 ?_
      refine wpAnyH_take (i := 1) (v := .int .i64 (k : Int)) rfl (by kernel_rfl) (by kernel_rfl) (by kernel_rfl) (fun _ _ _ h => h) (yk_move (by kernel_rfl) _ rfl _ (by kernel_rfl)) hH0 ?_
      refine wpAnyH_take (i := 2) (v := .pointer (some ⟨g, off + k * 10, none⟩)) rfl (by kernel_rfl) (by kernel_rfl) (by kernel_rfl) (fun _ _ _ h => h) (yk_iaB (by kernel_rfl) _ _ _ rfl (.slice (some ⟨g, off, none⟩) L.length cap) (.int .i64 (k : Int)) (by kernel_rfl) (by kernel_rfl) _ (fun w' hw' => by go_simp)) hH0 ?_
      refine wpAnyH_take (i := 3) (v := .agg #[.int .i64 ok, .string of, .string ot, .string od, .int .u64 (limb on 0), .int .u64 (limb on 1), .int .u64 (limb on 2), .int .u64 (limb on 3), .bool oraw, .bool osm]) rfl (by kernel_rfl) (by kernel_rfl) (by kernel_rfl) (fun _ _ _ h => h) (yk_load (by kernel_rfl) _ _ rfl (.pointer (some ⟨g, off + k * 10, none⟩)) (by kernel_rfl) _ (fun w' hw' => by have c0 := BW_cell hw'.hb o0; have c1 := BW_cell hw'.hb o1; have c2 := BW_cell hw'.hb o2; have c3 := BW_cell hw'.hb o3; have c4 := BW_cell hw'.hb o4; have c5 := BW_cell hw'.hb o5; have c6 := BW_cell hw'.hb o6; have c7 := BW_cell hw'.hb o7; have c8 := BW_cell hw'.hb o8; have c9 := BW_cell hw'.hb o9; go_simp)) hH0 ?_
      refine wpAnyH_take (i := 5) (v := .agg #[.slice q E.length c]) rfl (by kernel_rfl) (by kernel_rfl) (by kernel_rfl) (fun _ _ _ h => h) (yk_load (by kernel_rfl) _ _ rfl (.pointer (some ⟨w1.heap.size, 0, none⟩)) (by kernel_rfl) _ (fun w' hw' => by have c0 := (hw'.bl _ (.head _)).cell 0; go_simp)) hH0 ?_
      refine wpAnyH_ready (rs := [4, 12]) (by kernel_rfl) (by simp) ?_
      refine AllReadyH.cons rfl (fun K hK => ?_) (AllReadyH.cons rfl (fun K hK => ?_) (AllReadyH.nil))
      · go_simp
        go_at_call 13
        refine (Hsm.out _).mono ?_
        rintro e w4 ⟨rfl, hd4⟩
        go_wp2_with fail
        refine hK.out _ _ (hH0.on hd4) (fun hH1 => ?_)
        clear hK K
        
        refine wpAnyH_ready (rs := [6, 12]) (by kernel_rfl) (by simp) ?_
        refine AllReadyH.cons rfl (fun K hK => ?_) (AllReadyH.cons rfl (fun K hK => ?_) (AllReadyH.nil))
        · go_simp
          go_at_call 21
          refine (HO.out _ _ (e_d.out.on hH1.hb)).mono ?_
          rintro e w6 ⟨q3, c3, v3, rfl, he1, he2, hd6⟩
          go_wp2_with fail
          refine hK.out _ _ (hH1.on hd6) (fun hH2 => ?_)
          clear hK K
          
          refine wpAnyH_take (i := 7) (v := .tuple #[.agg #[.slice q3 M.length c3], .int .i64 x, v3, .int .i64 y]) rfl (by kernel_rfl) (by kernel_rfl) (by kernel_rfl) (fun _ _ _ h => h) (yk_move (by kernel_rfl) _ rfl _ (by kernel_rfl)) hH2 ?_
          refine wpAnyH_take (i := 8) (v := .agg #[.slice q3 M.length c3]) rfl (by kernel_rfl) (by kernel_rfl) (by kernel_rfl) (fun _ _ _ h => h) (yk_ext (by kernel_rfl) _ _ rfl (.tuple #[.agg #[.slice q3 M.length c3], .int .i64 x, v3, .int .i64 y]) (by kernel_rfl) _ (fun _ _ => rfl)) hH2 ?_
          refine wpAnyH_take (i := 9) (v := .int .i64 x) rfl (by kernel_rfl) (by kernel_rfl) (by kernel_rfl) (fun _ _ _ h => h) (yk_ext (by kernel_rfl) _ _ rfl (.tuple #[.agg #[.slice q3 M.length c3], .int .i64 x, v3, .int .i64 y]) (by kernel_rfl) _ (fun _ _ => rfl)) hH2 ?_
          refine wpAnyH_take (i := 10) (v := v3) rfl (by kernel_rfl) (by kernel_rfl) (by kernel_rfl) (fun _ _ _ h => h) (yk_ext (by kernel_rfl) _ _ rfl (.tuple #[.agg #[.slice q3 M.length c3], .int .i64 x, v3, .int .i64 y]) (by kernel_rfl) _ (fun _ _ => rfl)) hH2 ?_
          refine wpAnyH_take (i := 11) (v := .int .i64 y) rfl (by kernel_rfl) (by kernel_rfl) (by kernel_rfl) (fun _ _ _ h => h) (yk_ext (by kernel_rfl) _ _ rfl (.tuple #[.agg #[.slice q3 M.length c3], .int .i64 x, v3, .int .i64 y]) (by kernel_rfl) _ (fun _ _ => rfl)) hH2 ?_
          have k_z : Blk (w6.alloc (.cells #[.slice none 0 0] 26)) (w6.heap.size) 26 #[.slice none 0 0] := blk1 w6 _ _
          have hzl : wr.heap.size ≤ w6.heap.size := hH2.hb.size
          refine wpAnyH_ready (rs := [12]) (by kernel_rfl) (by simp) ?_
          refine AllReadyH.cons rfl (fun K hK => ?_) AllReadyH.nil
          go_simp
          refine hK.out _ _ (hH2.on (BW_alloc (BW_refl _) _)) (fun hH3 => ?_)
          clear hK K
          replace he1 := he1.on (BW_alloc (BW_refl _) (.cells #[.slice none 0 0] 26))
          refine wpAnyH_ready (rs := [13]) (by kernel_rfl) (by simp) ?_
          refine AllReadyH.cons rfl (fun K hK => ?_) AllReadyH.nil
          rw [if_pos (by kernel_rfl)]
          try simp only [Act.put, List.getElem_toArray, List.getElem_cons_zero, List.getElem_cons_succ, List.setIfInBounds_toArray, List.set_cons_succ, List.set_cons_zero]
          refine wp_store_mid _ _ _ rfl w6.heap.size 0 [.slice q3 M.length c3].toArray (by kernel_rfl) (by kernel_rfl) (k_z.there (Nat.le_refl 1)) szD (by simp [Value.oneCell']) ?_
          simp only [Act.put, List.getElem_toArray, List.getElem_cons_zero, List.getElem_cons_succ]
          refine hK.out _ _ (hH3.put (ne1 (by omega)) (by omega) _) (fun hH4 => ?_)
          clear hK K
          refine wpAnyH_take (i := 14) (v := .int .i64 x) rfl (by kernel_rfl) (by kernel_rfl) (by kernel_rfl) (fun _ _ _ h => h) (yk_assign (by kernel_rfl) _ rfl _ (by kernel_rfl)) hH4 ?_
          refine wpAnyH_take (i := 15) (v := v3) rfl (by kernel_rfl) (by kernel_rfl) (by kernel_rfl) (fun _ _ _ h => h) (yk_assign (by kernel_rfl) _ rfl _ (by kernel_rfl)) hH4 ?_
          refine wpAnyH_take (i := 16) (v := .int .i64 y) rfl (by kernel_rfl) (by kernel_rfl) (by kernel_rfl) (fun _ _ _ h => h) (yk_assign (by kernel_rfl) _ rfl _ (by kernel_rfl)) hH4 ?_
          refine wpAnyH_done (by kernel_rfl) ?_ _
          have hB := hH4.hb
          replace he1 := he1.box k_z (.slice q3 M.length c3)
          change Ents ((w6.alloc (.cells #[.slice none 0 0] 26)).setCells (w6.heap.size) 0 [.slice q3 M.length c3]) _ _ at he1
          replace k_z := setCells_all k_z [.slice q3 M.length c3] rfl
          change Exit.then _ _ _ _ ((w6.alloc (.cells #[.slice none 0 0] 26)).setCells (w6.heap.size) 0 [.slice q3 M.length c3])
          generalize (w6.alloc (.cells #[.slice none 0 0] 26)).setCells (w6.heap.size) 0 [.slice q3 M.length c3] = Z at *
          generalize w6.heap.size = gz at *
          clear hH0 hH1 hH2 hH3 hH4 hd4 hd6
          have hg1z : w1.heap.size < wr.heap.size := k_d.lt
          replace k_d := k_d.on hB
          replace k_p := k_p.on hB
          replace e_d := Lib.hid (e_d.out.on hB)
          replace BB := BW_on BB hB
          have he1b := Lib.hid he1
          clear he1 hB o0 o1 o2 o3 o4 o5 o6 o7 o8 o9 Hsm HO
          by_cases hx : x = 0
          · subst hx
            have hcM' := hcM rfl
            have c_z := fun i => k_z.cell i
            have c_d := fun i => k_d.cell i
            have f_d := fun i => k_d.free i
            have hrM := Lib.hid (he1b.out.box k_d (.slice q3 M.length c3))
            have hbM := BW_off (p := ⟨w1.heap.size, 0, none⟩) hwd (.slice q3 M.length c3) BB
            have kdM : Blk (Z.setCell ⟨w1.heap.size, 0, none⟩ (.slice q3 M.length c3)) w1.heap.size 26 #[.slice q3 M.length c3] := k_d.set_ 0 (.slice q3 M.length c3)
            have kpM := k_p.far (p := ⟨w1.heap.size, 0, none⟩) (by show w.heap.size ≠ w1.heap.size; omega) (.slice q3 M.length c3)
            clear BB k_d k_p e_d he1b
            go_wp2_with fail
            go_roundw
            case rel => exact ⟨k + 1, q3, c3, M, by omega, by omega, by go_num, hsM, hcM', by omega, hrM, kdM, kpM, hbM⟩
            case measure => simp [intOf]; omega
          · clear hcM hsM hlM he1b
            have c_z := fun i => k_z.cell i
            go_wp2_with fail
            go_roundw
            case rel => exact ⟨k + 1, q, c, E, by omega, by omega, by go_num, hs, hc, by omega, e_d, k_d, k_p, BB⟩
            case measure => simp [intOf]; omega
        · have k_z : Blk (w4.alloc (.cells #[.slice none 0 0] 26)) (w4.heap.size) 26 #[.slice none 0 0] := blk1 w4 _ _
          have hzl : wr.heap.size ≤ w4.heap.size := hH1.hb.size
          go_simp
          refine hK.out _ _ (hH1.on (BW_alloc (BW_refl _) _)) (fun hH2 => ?_)
          clear hK K
          
          refine wpAnyH_ready (rs := [6]) (by kernel_rfl) (by simp) ?_
          refine AllReadyH.cons rfl (fun K hK => ?_) AllReadyH.nil
          go_simp
          go_at_call 21
          refine (HO.out _ _ (e_d.out.on hH2.hb)).mono ?_
          rintro e w6 ⟨q3, c3, v3, rfl, he1, he2, hd6⟩
          go_wp2_with fail
          refine hK.out _ _ (hH2.on hd6) (fun hH3 => ?_)
          clear hK K
          replace k_z := k_z.on hd6
          refine wpAnyH_take (i := 7) (v := .tuple #[.agg #[.slice q3 M.length c3], .int .i64 x, v3, .int .i64 y]) rfl (by kernel_rfl) (by kernel_rfl) (by kernel_rfl) (fun _ _ _ h => h) (yk_move (by kernel_rfl) _ rfl _ (by kernel_rfl)) hH3 ?_
          refine wpAnyH_take (i := 8) (v := .agg #[.slice q3 M.length c3]) rfl (by kernel_rfl) (by kernel_rfl) (by kernel_rfl) (fun _ _ _ h => h) (yk_ext (by kernel_rfl) _ _ rfl (.tuple #[.agg #[.slice q3 M.length c3], .int .i64 x, v3, .int .i64 y]) (by kernel_rfl) _ (fun _ _ => rfl)) hH3 ?_
          refine wpAnyH_take (i := 9) (v := .int .i64 x) rfl (by kernel_rfl) (by kernel_rfl) (by kernel_rfl) (fun _ _ _ h => h) (yk_ext (by kernel_rfl) _ _ rfl (.tuple #[.agg #[.slice q3 M.length c3], .int .i64 x, v3, .int .i64 y]) (by kernel_rfl) _ (fun _ _ => rfl)) hH3 ?_
          refine wpAnyH_take (i := 10) (v := v3) rfl (by kernel_rfl) (by kernel_rfl) (by kernel_rfl) (fun _ _ _ h => h) (yk_ext (by kernel_rfl) _ _ rfl (.tuple #[.agg #[.slice q3 M.length c3], .int .i64 x, v3, .int .i64 y]) (by kernel_rfl) _ (fun _ _ => rfl)) hH3 ?_
          refine wpAnyH_take (i := 11) (v := .int .i64 y) rfl (by kernel_rfl) (by kernel_rfl) (by kernel_rfl) (fun _ _ _ h => h) (yk_ext (by kernel_rfl) _ _ rfl (.tuple #[.agg #[.slice q3 M.length c3], .int .i64 x, v3, .int .i64 y]) (by kernel_rfl) _ (fun _ _ => rfl)) hH3 ?_
          refine wpAnyH_ready (rs := [13]) (by kernel_rfl) (by simp) ?_
          refine AllReadyH.cons rfl (fun K hK => ?_) AllReadyH.nil
          rw [if_pos (by kernel_rfl)]
          try simp only [Act.put, List.getElem_toArray, List.getElem_cons_zero, List.getElem_cons_succ, List.setIfInBounds_toArray, List.set_cons_succ, List.set_cons_zero]
          refine wp_store_mid _ _ _ rfl w4.heap.size 0 [.slice q3 M.length c3].toArray (by kernel_rfl) (by kernel_rfl) (k_z.there (Nat.le_refl 1)) szD (by simp [Value.oneCell']) ?_
          simp only [Act.put, List.getElem_toArray, List.getElem_cons_zero, List.getElem_cons_succ]
          refine hK.out _ _ (hH3.put (ne1 (by omega)) (by omega) _) (fun hH4 => ?_)
          clear hK K
          refine wpAnyH_take (i := 14) (v := .int .i64 x) rfl (by kernel_rfl) (by kernel_rfl) (by kernel_rfl) (fun _ _ _ h => h) (yk_assign (by kernel_rfl) _ rfl _ (by kernel_rfl)) hH4 ?_
          refine wpAnyH_take (i := 15) (v := v3) rfl (by kernel_rfl) (by kernel_rfl) (by kernel_rfl) (fun _ _ _ h => h) (yk_assign (by kernel_rfl) _ rfl _ (by kernel_rfl)) hH4 ?_
          refine wpAnyH_take (i := 16) (v := .int .i64 y) rfl (by kernel_rfl) (by kernel_rfl) (by kernel_rfl) (fun _ _ _ h => h) (yk_assign (by kernel_rfl) _ rfl _ (by kernel_rfl)) hH4 ?_
          refine wpAnyH_done (by kernel_rfl) ?_ _
          have hB := hH4.hb
          replace he1 := he1.box k_z (.slice q3 M.length c3)
          change Ents (w6.setCells (w4.heap.size) 0 [.slice q3 M.length c3]) _ _ at he1
          replace k_z := setCells_all k_z [.slice q3 M.length c3] rfl
          change Exit.then _ _ _ _ (w6.setCells (w4.heap.size) 0 [.slice q3 M.length c3])
          generalize w6.setCells (w4.heap.size) 0 [.slice q3 M.length c3] = Z at *
          generalize w4.heap.size = gz at *
          clear hH0 hH1 hH2 hH3 hH4 hd4 hd6
          have hg1z : w1.heap.size < wr.heap.size := k_d.lt
          replace k_d := k_d.on hB
          replace k_p := k_p.on hB
          replace e_d := Lib.hid (e_d.out.on hB)
          replace BB := BW_on BB hB
          have he1b := Lib.hid he1
          clear he1 hB o0 o1 o2 o3 o4 o5 o6 o7 o8 o9 Hsm HO
          by_cases hx : x = 0
          · subst hx
            have hcM' := hcM rfl
            have c_z := fun i => k_z.cell i
            have c_d := fun i => k_d.cell i
            have f_d := fun i => k_d.free i
            have hrM := Lib.hid (he1b.out.box k_d (.slice q3 M.length c3))
            have hbM := BW_off (p := ⟨w1.heap.size, 0, none⟩) hwd (.slice q3 M.length c3) BB
            have kdM : Blk (Z.setCell ⟨w1.heap.size, 0, none⟩ (.slice q3 M.length c3)) w1.heap.size 26 #[.slice q3 M.length c3] := k_d.set_ 0 (.slice q3 M.length c3)
            have kpM := k_p.far (p := ⟨w1.heap.size, 0, none⟩) (by show w.heap.size ≠ w1.heap.size; omega) (.slice q3 M.length c3)
            clear BB k_d k_p e_d he1b
            go_wp2_with fail
            go_roundw
            case rel => exact ⟨k + 1, q3, c3, M, by omega, by omega, by go_num, hsM, hcM', by omega, hrM, kdM, kpM, hbM⟩
            case measure => simp [intOf]; omega
          · clear hcM hsM hlM he1b
            have c_z := fun i => k_z.cell i
            go_wp2_with fail
            go_roundw
            case rel => exact ⟨k + 1, q, c, E, by omega, by omega, by go_num, hs, hc, by omega, e_d, k_d, k_p, BB⟩
            case measure => simp [intOf]; omega
      · have k_z : Blk ((wr.alloc (.cells #[.slice none 0 0] 26)).drew) (wr.heap.size) 26 #[.slice none 0 0] := (blk1 wr _ _).drew
        have hzl : wr.heap.size ≤ wr.heap.size := hH0.hb.size
        go_simp
        refine hK.out _ _ (hH0.on (BW_alloc (BW_refl _) _)) (fun hH1 => ?_)
        clear hK K
        
        refine wpAnyH_ready (rs := [4]) (by kernel_rfl) (by simp) ?_
        refine AllReadyH.cons rfl (fun K hK => ?_) AllReadyH.nil
        go_simp
        go_at_call 13
        refine (Hsm.out _).mono ?_
        rintro e w4 ⟨rfl, hd4⟩
        go_wp2_with fail
        refine hK.out _ _ (hH1.on hd4) (fun hH2 => ?_)
        clear hK K
        replace k_z := k_z.on hd4
        refine wpAnyH_ready (rs := [6]) (by kernel_rfl) (by simp) ?_
        refine AllReadyH.cons rfl (fun K hK => ?_) AllReadyH.nil
        go_simp
        go_at_call 21
        refine (HO.out _ _ (e_d.out.on hH2.hb)).mono ?_
        rintro e w6 ⟨q3, c3, v3, rfl, he1, he2, hd6⟩
        go_wp2_with fail
        refine hK.out _ _ (hH2.on hd6) (fun hH3 => ?_)
        clear hK K
        replace k_z := k_z.on hd6
        refine wpAnyH_take (i := 7) (v := .tuple #[.agg #[.slice q3 M.length c3], .int .i64 x, v3, .int .i64 y]) rfl (by kernel_rfl) (by kernel_rfl) (by kernel_rfl) (fun _ _ _ h => h) (yk_move (by kernel_rfl) _ rfl _ (by kernel_rfl)) hH3 ?_
        refine wpAnyH_take (i := 8) (v := .agg #[.slice q3 M.length c3]) rfl (by kernel_rfl) (by kernel_rfl) (by kernel_rfl) (fun _ _ _ h => h) (yk_ext (by kernel_rfl) _ _ rfl (.tuple #[.agg #[.slice q3 M.length c3], .int .i64 x, v3, .int .i64 y]) (by kernel_rfl) _ (fun _ _ => rfl)) hH3 ?_
        refine wpAnyH_take (i := 9) (v := .int .i64 x) rfl (by kernel_rfl) (by kernel_rfl) (by kernel_rfl) (fun _ _ _ h => h) (yk_ext (by kernel_rfl) _ _ rfl (.tuple #[.agg #[.slice q3 M.length c3], .int .i64 x, v3, .int .i64 y]) (by kernel_rfl) _ (fun _ _ => rfl)) hH3 ?_
        refine wpAnyH_take (i := 10) (v := v3) rfl (by kernel_rfl) (by kernel_rfl) (by kernel_rfl) (fun _ _ _ h => h) (yk_ext (by kernel_rfl) _ _ rfl (.tuple #[.agg #[.slice q3 M.length c3], .int .i64 x, v3, .int .i64 y]) (by kernel_rfl) _ (fun _ _ => rfl)) hH3 ?_
        refine wpAnyH_take (i := 11) (v := .int .i64 y) rfl (by kernel_rfl) (by kernel_rfl) (by kernel_rfl) (fun _ _ _ h => h) (yk_ext (by kernel_rfl) _ _ rfl (.tuple #[.agg #[.slice q3 M.length c3], .int .i64 x, v3, .int .i64 y]) (by kernel_rfl) _ (fun _ _ => rfl)) hH3 ?_
        refine wpAnyH_ready (rs := [13]) (by kernel_rfl) (by simp) ?_
        refine AllReadyH.cons rfl (fun K hK => ?_) AllReadyH.nil
        rw [if_pos (by kernel_rfl)]
        try simp only [Act.put, List.getElem_toArray, List.getElem_cons_zero, List.getElem_cons_succ, List.setIfInBounds_toArray, List.set_cons_succ, List.set_cons_zero]
        refine wp_store_mid _ _ _ rfl wr.heap.size 0 [.slice q3 M.length c3].toArray (by kernel_rfl) (by kernel_rfl) (k_z.there (Nat.le_refl 1)) szD (by simp [Value.oneCell']) ?_
        simp only [Act.put, List.getElem_toArray, List.getElem_cons_zero, List.getElem_cons_succ]
        refine hK.out _ _ (hH3.put (ne1 (by omega)) (by omega) _) (fun hH4 => ?_)
        clear hK K
        refine wpAnyH_take (i := 14) (v := .int .i64 x) rfl (by kernel_rfl) (by kernel_rfl) (by kernel_rfl) (fun _ _ _ h => h) (yk_assign (by kernel_rfl) _ rfl _ (by kernel_rfl)) hH4 ?_
        refine wpAnyH_take (i := 15) (v := v3) rfl (by kernel_rfl) (by kernel_rfl) (by kernel_rfl) (fun _ _ _ h => h) (yk_assign (by kernel_rfl) _ rfl _ (by kernel_rfl)) hH4 ?_
        refine wpAnyH_take (i := 16) (v := .int .i64 y) rfl (by kernel_rfl) (by kernel_rfl) (by kernel_rfl) (fun _ _ _ h => h) (yk_assign (by kernel_rfl) _ rfl _ (by kernel_rfl)) hH4 ?_
        refine wpAnyH_done (by kernel_rfl) ?_ _
        have hB := hH4.hb
        replace he1 := he1.box k_z (.slice q3 M.length c3)
        change Ents (w6.setCells (wr.heap.size) 0 [.slice q3 M.length c3]) _ _ at he1
        replace k_z := setCells_all k_z [.slice q3 M.length c3] rfl
        change Exit.then _ _ _ _ (w6.setCells (wr.heap.size) 0 [.slice q3 M.length c3])
        generalize w6.setCells (wr.heap.size) 0 [.slice q3 M.length c3] = Z at *
        clear hH0 hH1 hH2 hH3 hH4 hd4 hd6
        have hg1z : w1.heap.size < wr.heap.size := k_d.lt
        replace k_d := k_d.on hB
        replace k_p := k_p.on hB
        replace e_d := Lib.hid (e_d.out.on hB)
        replace BB := BW_on BB hB
        have he1b := Lib.hid he1
        clear he1 hB o0 o1 o2 o3 o4 o5 o6 o7 o8 o9 Hsm HO
        by_cases hx : x = 0
        · subst hx
          have hcM' := hcM rfl
          have c_z := fun i => k_z.cell i
          have c_d := fun i => k_d.cell i
          have f_d := fun i => k_d.free i
          have hrM := Lib.hid (he1b.out.box k_d (.slice q3 M.length c3))
          have hbM := BW_off (p := ⟨w1.heap.size, 0, none⟩) hwd (.slice q3 M.length c3) BB
          have kdM : Blk (Z.setCell ⟨w1.heap.size, 0, none⟩ (.slice q3 M.length c3)) w1.heap.size 26 #[.slice q3 M.length c3] := k_d.set_ 0 (.slice q3 M.length c3)
          have kpM := k_p.far (p := ⟨w1.heap.size, 0, none⟩) (by show w.heap.size ≠ w1.heap.size; omega) (.slice q3 M.length c3)
          clear BB k_d k_p e_d he1b
          go_wp2_with fail
          go_roundw
          case rel => exact ⟨k + 1, q3, c3, M, by omega, by omega, by go_num, hsM, hcM', by omega, hrM, kdM, kpM, hbM⟩
          case measure => simp [intOf]; omega
        · clear hcM hsM hlM he1b
          have c_z := fun i => k_z.cell i
          go_wp2_with fail
          go_roundw
          case rel => exact ⟨k + 1, q, c, E, by omega, by omega, by go_num, hs, hc, by omega, e_d, k_d, k_p, BB⟩
          case measure => simp [intOf]; omega
    · have hout : ¬ ((k : Int) < (L.length : Int)) ∨ (k = 10 ∧ (k : Int) < (L.length : Int)) := by omega
      have hkE : E.length ≤ 20 := by omega
      clear hlt hk hl
      rcases hout with hk1 | ⟨rfl, hk1⟩
      · obtain ⟨m, hm, hsm⟩ := small11_any pk pf pt pd pn praw psm hpn
        have zf := smT_size praw 1 pf
        have zt := smT_size praw 1 pt
        have zd := smT_size praw 3 pd
        generalize smT praw 1 pf = F at *
        generalize smT praw 1 pt = T at *
        generalize smT praw 3 pd = D at *
        have Hsm := Lib.hid hsm
        clear hsm
        have c_p := fun i => k_p.cell i
        go_wp2_with fail
        refine (Hsm.out _).mono ?_
        rintro e w2 ⟨rfl, hb⟩
        clear c_p
        replace k_d := k_d.on hb
        replace k_p := k_p.on hb
        replace e_d := Lib.hid (e_d.out.on hb)
        replace BB := BW_on BB hb
        clear hb Hsm
        have c_p := fun i => k_p.cell i
        have f_p := fun i => k_p.free i
        have hgdp : w1.heap.size ≠ w.heap.size := by omega
        have kp2 := k_p.store10 (.int .i64 pk) (.string F) (.string T) (.string D) (.int .u64 (limb m 0)) (.int .u64 (limb m 1)) (.int .u64 (limb m 2)) (.int .u64 (limb m 3)) (.bool praw) (.bool psm)
        have kd2 := k_d.far10 hgdp (.int .i64 pk) (.string F) (.string T) (.string D) (.int .u64 (limb m 0)) (.int .u64 (limb m 1)) (.int .u64 (limb m 2)) (.int .u64 (limb m 3)) (.bool praw) (.bool psm)
        have ed2 := Lib.hid (e_d.out.box10 k_p hc.out.one (.int .i64 pk) (.string F) (.string T) (.string D) (.int .u64 (limb m 0)) (.int .u64 (limb m 1)) (.int .u64 (limb m 2)) (.int .u64 (limb m 3)) (.bool praw) (.bool psm))
        have bb2 := below_store10 BB (Nat.le_refl w.heap.size) (.int .i64 pk) (.string F) (.string T) (.string D) (.int .u64 (limb m 0)) (.int .u64 (limb m 1)) (.int .u64 (limb m 2)) (.int .u64 (limb m 3)) (.bool praw) (.bool psm)
        clear k_p k_d e_d BB
        go_upto_region 10 with (fail)
        change Code.wp _ _ _ _ ((((((((((w2.setCell ⟨w.heap.size, 0, none⟩ (.int .i64 pk)).setCell ⟨w.heap.size, 1, none⟩ (.string F)).setCell ⟨w.heap.size, 2, none⟩ (.string T)).setCell ⟨w.heap.size, 3, none⟩ (.string D)).setCell ⟨w.heap.size, 4, none⟩ (.int .u64 (limb m 0))).setCell ⟨w.heap.size, 5, none⟩ (.int .u64 (limb m 1))).setCell ⟨w.heap.size, 6, none⟩ (.int .u64 (limb m 2))).setCell ⟨w.heap.size, 7, none⟩ (.int .u64 (limb m 3))).setCell ⟨w.heap.size, 8, none⟩ (.bool praw)).setCell ⟨w.heap.size, 9, none⟩ (.bool psm))
        clear c_p f_p
        generalize (((((((((w2.setCell ⟨w.heap.size, 0, none⟩ (.int .i64 pk)).setCell ⟨w.heap.size, 1, none⟩ (.string F)).setCell ⟨w.heap.size, 2, none⟩ (.string T)).setCell ⟨w.heap.size, 3, none⟩ (.string D)).setCell ⟨w.heap.size, 4, none⟩ (.int .u64 (limb m 0))).setCell ⟨w.heap.size, 5, none⟩ (.int .u64 (limb m 1))).setCell ⟨w.heap.size, 6, none⟩ (.int .u64 (limb m 2))).setCell ⟨w.heap.size, 7, none⟩ (.int .u64 (limb m 3))).setCell ⟨w.heap.size, 8, none⟩ (.bool praw)).setCell ⟨w.heap.size, 9, none⟩ (.bool psm) = W3 at *
        have k_p := kp2
        have k_d := kd2
        have e_d := ed2
        have BB := bb2
        clear kp2 kd2 ed2 bb2
        rcases hR : mintL E F D m with ⟨x1, A⟩
        have HM := fun w v hv => bmint_any v E F D m w hv hs.out (by omega) hm
        rw [hR] at HM
        replace HM := Lib.hid HM
        have c_d := fun i => k_d.cell i
        have c_p := fun i => k_p.cell i
        go_wp2_with fail
        refine (HM.out _ _ e_d.out).mono ?_
        rintro e w4 ⟨q4, c4, rfl, hen, hb⟩
        clear c_d c_p
        replace k_d := k_d.on hb
        replace k_p := k_p.on hb
        replace e_d := Lib.hid (e_d.out.on hb)
        replace BB := BW_on BB hb
        replace k_d := k_d.on (BW_alloc (BW_refl _) (.cells #[.slice q4 A.length c4] 26))
        replace k_p := k_p.on (BW_alloc (BW_refl _) (.cells #[.slice q4 A.length c4] 26))
        replace e_d := Lib.hid (e_d.out.on (BW_alloc (BW_refl _) (.cells #[.slice q4 A.length c4] 26)))
        replace BB := BW_on BB (BW_alloc (BW_refl _) (.cells #[.slice q4 A.length c4] 26))
        have k_a := blk1 w4 26 #[.slice q4 A.length c4]
        have e_a := Lib.hid (hen.on (BW_alloc (BW_refl _) (.cells #[.slice q4 A.length c4] 26)))
        clear hen hb HM
        by_cases hx1 : x1 = 0
        · subst hx1
          have hback := mint_burn hs.out hc.out.1 hR
          have hinv := mint_inv hs.out F D m
          rw [hR] at hinv
          have hsA : Hid (Srt A) := hinv.1
          have hlA : A.length ≤ E.length + 2 := hinv.2
          have HK := fun w v hv => bburn_any v A F D m w hv hsA.out (by omega) hm
          rw [hback] at HK
          replace HK := Lib.hid HK
          clear hinv hback hR
          have c_a := fun i => k_a.cell i
          have c_p := fun i => k_p.cell i
          have c_d := fun i => k_d.cell i
          go_wp2_with fail
          refine (HK.out _ _ e_a.out).mono ?_
          rintro e w5 ⟨q5, c5, rfl, hen, hb⟩
          clear c_a c_p c_d
          replace k_d := k_d.on hb
          replace k_p := k_p.on hb
          replace k_a := k_a.on hb
          replace e_d := Lib.hid (e_d.out.on hb)
          replace e_a := Lib.hid (e_a.out.on hb)
          replace BB := BW_on BB hb
          have k_b := blk1 w5 26 #[.slice q5 E.length c5]
          replace k_d := k_d.on (BW_alloc (BW_refl _) (.cells #[.slice q5 E.length c5] 26))
          replace k_p := k_p.on (BW_alloc (BW_refl _) (.cells #[.slice q5 E.length c5] 26))
          replace k_a := k_a.on (BW_alloc (BW_refl _) (.cells #[.slice q5 E.length c5] 26))
          replace e_d := Lib.hid (e_d.out.on (BW_alloc (BW_refl _) (.cells #[.slice q5 E.length c5] 26)))
          replace e_a := Lib.hid (e_a.out.on (BW_alloc (BW_refl _) (.cells #[.slice q5 E.length c5] 26)))
          replace BB := BW_on BB (BW_alloc (BW_refl _) (.cells #[.slice q5 E.length c5] 26))
          have e_b := Lib.hid (hen.on (BW_alloc (BW_refl _) (.cells #[.slice q5 E.length c5] 26)))
          clear hen hb HK
          have c_b := fun i => k_b.cell i
          have c_d := fun i => k_d.cell i
          go_wp2_with fail
          refine (same_any _ _ E E _ e_b.out e_d.out (by omega) (by omega)).mono ?_
          rintro e wS ⟨rfl, hb⟩
          clear c_b c_d
          replace k_d := k_d.on hb
          replace k_p := k_p.on hb
          replace k_a := k_a.on hb
          replace k_b := k_b.on hb
          replace e_d := Lib.hid (e_d.out.on hb)
          replace e_a := Lib.hid (e_a.out.on hb)
          replace e_b := Lib.hid (e_b.out.on hb)
          replace BB := BW_on BB hb
          clear hb
          rw [decide_eq_true rfl]
          clear k_a
          clear e_a
          clear k_b
          clear e_b
          rcases hR2 : moveL E F T D m with ⟨x2, C⟩
          have HV := fun w v hv => bmove_any v E F T D m w hv hs.out (by omega) hm
          rw [hR2] at HV
          replace HV := Lib.hid HV
          have c_d := fun i => k_d.cell i
          have c_p := fun i => k_p.cell i
          go_wp2_with fail
          refine (HV.out _ _ e_d.out).mono ?_
          rintro e w6 ⟨q6, c6, rfl, hen, hb⟩
          clear c_d c_p
          replace k_d := k_d.on hb
          replace k_p := k_p.on hb
          replace e_d := Lib.hid (e_d.out.on hb)
          replace BB := BW_on BB hb
          replace k_d := k_d.on (BW_alloc (BW_refl _) (.cells #[.slice q6 C.length c6] 26))
          replace k_p := k_p.on (BW_alloc (BW_refl _) (.cells #[.slice q6 C.length c6] 26))
          replace e_d := Lib.hid (e_d.out.on (BW_alloc (BW_refl _) (.cells #[.slice q6 C.length c6] 26)))
          replace BB := BW_on BB (BW_alloc (BW_refl _) (.cells #[.slice q6 C.length c6] 26))
          have k_c := blk1 w6 26 #[.slice q6 C.length c6]
          have e_c := Lib.hid (hen.on (BW_alloc (BW_refl _) (.cells #[.slice q6 C.length c6] 26)))
          clear hen hb HV
          by_cases hx2 : x2 = 0
          · subst hx2
            obtain ⟨hback, hsup⟩ := move_back hs.out hc.out.1 hR2
            have hinv := move_inv hs.out F T D m
            rw [hR2] at hinv
            have hsC : Hid (Srt C) := hinv.1
            have hlC : C.length ≤ E.length + 2 := hinv.2
            have HK := fun w v hv => bmove_any v C T F D m w hv hsC.out (by omega) hm
            rw [hback] at HK
            replace HK := Lib.hid HK
            have Hsup := Lib.hid hsup
            clear hinv hback hsup hR2
            have c_c := fun i => k_c.cell i
            have c_p := fun i => k_p.cell i
            go_wp2_with fail
            refine (HK.out _ _ e_c.out).mono ?_
            rintro e w7 ⟨q7, c7, rfl, hen, hb⟩
            clear c_c c_p
            replace k_d := k_d.on hb
            replace k_p := k_p.on hb
            replace k_c := k_c.on hb
            replace e_d := Lib.hid (e_d.out.on hb)
            replace e_c := Lib.hid (e_c.out.on hb)
            replace BB := BW_on BB hb
            have k_b := blk1 w7 26 #[.slice q7 E.length c7]
            replace k_d := k_d.on (BW_alloc (BW_refl _) (.cells #[.slice q7 E.length c7] 26))
            replace k_p := k_p.on (BW_alloc (BW_refl _) (.cells #[.slice q7 E.length c7] 26))
            replace k_c := k_c.on (BW_alloc (BW_refl _) (.cells #[.slice q7 E.length c7] 26))
            replace e_d := Lib.hid (e_d.out.on (BW_alloc (BW_refl _) (.cells #[.slice q7 E.length c7] 26)))
            replace e_c := Lib.hid (e_c.out.on (BW_alloc (BW_refl _) (.cells #[.slice q7 E.length c7] 26)))
            replace BB := BW_on BB (BW_alloc (BW_refl _) (.cells #[.slice q7 E.length c7] 26))
            have e_b := Lib.hid (hen.on (BW_alloc (BW_refl _) (.cells #[.slice q7 E.length c7] 26)))
            clear hen hb HK
            go_upto_region 18 with (fail)
            change Code.wp _ _ _ _ (w7.alloc (.cells #[.slice q7 E.length c7] 26))
            generalize w7.alloc (.cells #[.slice q7 E.length c7] 26) = W8 at *
            refine wp_region_held_drew (S := BxS W8 [(w7.heap.size, 26, #[.slice q7 E.length c7]), (w1.heap.size, 26, #[.slice q E.length c]), (w6.heap.size, 26, #[.slice q6 C.length c6]), (w.heap.size, 35, #[.int .i64 pk, .string F, .string T, .string D, .int .u64 (limb m 0), .int .u64 (limb m 1), .int .u64 (limb m 2), .int .u64 (limb m 3), .bool praw, .bool psm])]) (by kernel_rfl) ((((((BxS.nil (BW_refl W8)).cons k_p).cons k_c).cons k_d).cons k_b)).drew (fun hH0 => ?_)
            refine wpAnyH_take (i := 0) (v := .int .i64 0) rfl (by kernel_rfl) (by kernel_rfl) (by kernel_rfl) (fun _ _ _ h => h) (yk_move (by kernel_rfl) _ rfl _ (by kernel_rfl)) hH0 ?_
            refine wpAnyH_take (i := 1) (v := .bool false) rfl (by kernel_rfl) (by kernel_rfl) (by kernel_rfl) (fun _ _ _ h => h) (yk_bin (by kernel_rfl) _ _ _ _ _ rfl (.int .i64 0) (.int .i64 0) (by kernel_rfl) (by kernel_rfl) _ (fun w' hw' => by go_simp)) hH0 ?_
            refine wpAnyH_take (i := 2) (v := .bool false) rfl (by kernel_rfl) (by kernel_rfl) (by kernel_rfl) (fun _ _ _ h => h) (yk_move (by kernel_rfl) _ rfl _ (by kernel_rfl)) hH0 ?_
            refine wpAnyH_take (i := 3) (v := .agg #[.slice q7 E.length c7]) rfl (by kernel_rfl) (by kernel_rfl) (by kernel_rfl) (fun _ _ _ h => h) (yk_load (by kernel_rfl) _ _ rfl (.pointer (some ⟨w7.heap.size, 0, none⟩)) (by kernel_rfl) _ (fun w' hw' => by have c0 := (hw'.bl _ (.head _)).cell 0; go_simp)) hH0 ?_
            refine wpAnyH_take (i := 4) (v := .agg #[.slice q E.length c]) rfl (by kernel_rfl) (by kernel_rfl) (by kernel_rfl) (fun _ _ _ h => h) (yk_load (by kernel_rfl) _ _ rfl (.pointer (some ⟨w1.heap.size, 0, none⟩)) (by kernel_rfl) _ (fun w' hw' => by have c0 := (hw'.bl _ (.tail _ (.head _))).cell 0; go_simp)) hH0 ?_
            refine wpAnyH_ready (rs := [5]) (by kernel_rfl) (by simp) ?_
            refine AllReadyH.cons rfl (fun K hK => ?_) AllReadyH.nil
            go_simp
            go_at_call 24
            refine (same_any _ _ E E _ (e_b.out.on hH0.hb) (e_d.out.on hH0.hb) (by omega) (by omega)).mono ?_
            rintro e w5 ⟨rfl, hd5⟩
            rw [decide_eq_true rfl]
            go_wp2_with fail
            refine hK.out _ _ (hH0.on hd5) (fun hH1 => ?_)
            clear hK K
            refine wpAnyH_take (i := 6) (v := .bool false) rfl (by kernel_rfl) (by kernel_rfl) (by kernel_rfl) (fun _ _ _ h => h) (yk_un (by kernel_rfl) _ _ _ rfl (.bool true) (by kernel_rfl) _ (fun w' hw' => by go_simp)) hH1 ?_
            refine wpAnyH_take (i := 7) (v := .bool false) rfl (by kernel_rfl) (by kernel_rfl) (by kernel_rfl) (fun _ _ _ h => h) (yk_pick (by kernel_rfl) _ _ _ rfl false (by kernel_rfl) _ (by kernel_rfl)) hH1 ?_
            refine wpAnyH_take (i := 8) (v := .bool false) rfl (by kernel_rfl) (by kernel_rfl) (by kernel_rfl) (fun _ _ _ h => h) (yk_move (by kernel_rfl) _ rfl _ (by kernel_rfl)) hH1 ?_
            refine wpAnyH_take (i := 9) (v := .agg #[.slice q6 C.length c6]) rfl (by kernel_rfl) (by kernel_rfl) (by kernel_rfl) (fun _ _ _ h => h) (yk_load (by kernel_rfl) _ _ rfl (.pointer (some ⟨w6.heap.size, 0, none⟩)) (by kernel_rfl) _ (fun w' hw' => by have c0 := (hw'.bl _ (.tail _ (.tail _ (.head _)))).cell 0; go_simp)) hH1 ?_
            refine wpAnyH_take (i := 10) (v := .pointer (some ⟨w.heap.size, 3, none⟩)) rfl (by kernel_rfl) (by kernel_rfl) (by kernel_rfl) (fun _ _ _ h => h) (yk_faB (by kernel_rfl) _ _ _ rfl (.pointer (some ⟨w.heap.size, 0, none⟩)) (by kernel_rfl) _ (fun w' hw' => by go_simp)) hH1 ?_
            refine wpAnyH_take (i := 11) (v := .string D) rfl (by kernel_rfl) (by kernel_rfl) (by kernel_rfl) (fun _ _ _ h => h) (yk_load (by kernel_rfl) _ _ rfl (.pointer (some ⟨w.heap.size, 3, none⟩)) (by kernel_rfl) _ (fun w' hw' => by have c3 := (hw'.bl _ (.tail _ (.tail _ (.tail _ (.head _))))).cell 3; go_simp)) hH1 ?_
            refine wpAnyH_take (i := 13) (v := .agg #[.slice q E.length c]) rfl (by kernel_rfl) (by kernel_rfl) (by kernel_rfl) (fun _ _ _ h => h) (yk_load (by kernel_rfl) _ _ rfl (.pointer (some ⟨w1.heap.size, 0, none⟩)) (by kernel_rfl) _ (fun w' hw' => by have c0 := (hw'.bl _ (.tail _ (.head _))).cell 0; go_simp)) hH1 ?_
            refine wpAnyH_take (i := 14) (v := .pointer (some ⟨w.heap.size, 3, none⟩)) rfl (by kernel_rfl) (by kernel_rfl) (by kernel_rfl) (fun _ _ _ h => h) (yk_faB (by kernel_rfl) _ _ _ rfl (.pointer (some ⟨w.heap.size, 0, none⟩)) (by kernel_rfl) _ (fun w' hw' => by go_simp)) hH1 ?_
            refine wpAnyH_take (i := 15) (v := .string D) rfl (by kernel_rfl) (by kernel_rfl) (by kernel_rfl) (fun _ _ _ h => h) (yk_load (by kernel_rfl) _ _ rfl (.pointer (some ⟨w.heap.size, 3, none⟩)) (by kernel_rfl) _ (fun w' hw' => by have c3 := (hw'.bl _ (.tail _ (.tail _ (.tail _ (.head _))))).cell 3; go_simp)) hH1 ?_
            refine wpAnyH_ready (rs := [12]) (by kernel_rfl) (by simp) ?_
            refine AllReadyH.cons rfl (fun K hK => ?_) AllReadyH.nil
            go_simp
            go_at_call 12
            refine (bsup_any _ C D _ (e_c.out.on hH1.hb) hsC.out (by omega) (by omega)).mono ?_
            rintro e w12 ⟨rfl, hd12⟩
            rw [Hsup.out]
            go_wp2_with fail
            refine hK.out _ _ (hH1.on hd12) (fun hH2 => ?_)
            clear hK K
            refine wpAnyH_ready (rs := [16]) (by kernel_rfl) (by simp) ?_
            refine AllReadyH.cons rfl (fun K hK => ?_) AllReadyH.nil
            go_simp
            go_at_call 12
            refine (bsup_any _ E D _ (e_d.out.on hH2.hb) hs.out (by omega) (by omega)).mono ?_
            rintro e w16 ⟨rfl, hd16⟩
            go_wp2_with fail
            refine hK.out _ _ (hH2.on hd16) (fun hH3 => ?_)
            clear hK K
            refine wpAnyH_take (i := 17) (v := .bool false) rfl (by kernel_rfl) (by kernel_rfl) (by kernel_rfl) (fun _ _ _ h => h) (yk_bin (by kernel_rfl) _ _ _ _ _ rfl (.agg #[.int .u64 (limb (ng E (totB D)) 0), .int .u64 (limb (ng E (totB D)) 1), .int .u64 (limb (ng E (totB D)) 2), .int .u64 (limb (ng E (totB D)) 3)]) (.agg #[.int .u64 (limb (ng E (totB D)) 0), .int .u64 (limb (ng E (totB D)) 1), .int .u64 (limb (ng E (totB D)) 2), .int .u64 (limb (ng E (totB D)) 3)]) (by kernel_rfl) (by kernel_rfl) _ (fun w' hw' => by have h0 := eqWd (ng E (totB D)) w'; go_simp)) hH3 ?_
            refine wpAnyH_take (i := 18) (v := .bool false) rfl (by kernel_rfl) (by kernel_rfl) (by kernel_rfl) (fun _ _ _ h => h) (yk_pick (by kernel_rfl) _ _ _ rfl false (by kernel_rfl) _ (by kernel_rfl)) hH3 ?_
            refine wpAnyH_done (by kernel_rfl) ?_ _
            have hB := hH3.hb
            go_wp2_with fail
            go_ret
            exact ⟨rfl, BW_on BB hB⟩
          · have c_c := fun i => k_c.cell i
            go_wp2_with fail
            go_ret
            exact ⟨rfl, BB⟩
        · clear hR
          rcases hR2 : moveL E F T D m with ⟨x2, C⟩
          have HV := fun w v hv => bmove_any v E F T D m w hv hs.out (by omega) hm
          rw [hR2] at HV
          replace HV := Lib.hid HV
          have c_d := fun i => k_d.cell i
          have c_p := fun i => k_p.cell i
          have c_a := fun i => k_a.cell i
          go_wp2_with fail
          refine (HV.out _ _ e_d.out).mono ?_
          rintro e w6 ⟨q6, c6, rfl, hen, hb⟩
          clear c_d c_p c_a
          replace k_d := k_d.on hb
          replace k_p := k_p.on hb
          replace k_a := k_a.on hb
          replace e_d := Lib.hid (e_d.out.on hb)
          replace e_a := Lib.hid (e_a.out.on hb)
          replace BB := BW_on BB hb
          replace k_d := k_d.on (BW_alloc (BW_refl _) (.cells #[.slice q6 C.length c6] 26))
          replace k_p := k_p.on (BW_alloc (BW_refl _) (.cells #[.slice q6 C.length c6] 26))
          replace k_a := k_a.on (BW_alloc (BW_refl _) (.cells #[.slice q6 C.length c6] 26))
          replace e_d := Lib.hid (e_d.out.on (BW_alloc (BW_refl _) (.cells #[.slice q6 C.length c6] 26)))
          replace e_a := Lib.hid (e_a.out.on (BW_alloc (BW_refl _) (.cells #[.slice q6 C.length c6] 26)))
          replace BB := BW_on BB (BW_alloc (BW_refl _) (.cells #[.slice q6 C.length c6] 26))
          have k_c := blk1 w6 26 #[.slice q6 C.length c6]
          have e_c := Lib.hid (hen.on (BW_alloc (BW_refl _) (.cells #[.slice q6 C.length c6] 26)))
          clear hen hb HV
          by_cases hx2 : x2 = 0
          · subst hx2
            obtain ⟨hback, hsup⟩ := move_back hs.out hc.out.1 hR2
            have hinv := move_inv hs.out F T D m
            rw [hR2] at hinv
            have hsC : Hid (Srt C) := hinv.1
            have hlC : C.length ≤ E.length + 2 := hinv.2
            have HK := fun w v hv => bmove_any v C T F D m w hv hsC.out (by omega) hm
            rw [hback] at HK
            replace HK := Lib.hid HK
            have Hsup := Lib.hid hsup
            clear hinv hback hsup hR2
            have c_c := fun i => k_c.cell i
            have c_p := fun i => k_p.cell i
            go_wp2_with fail
            refine (HK.out _ _ e_c.out).mono ?_
            rintro e w7 ⟨q7, c7, rfl, hen, hb⟩
            clear c_c c_p
            replace k_d := k_d.on hb
            replace k_p := k_p.on hb
            replace k_a := k_a.on hb
            replace k_c := k_c.on hb
            replace e_d := Lib.hid (e_d.out.on hb)
            replace e_a := Lib.hid (e_a.out.on hb)
            replace e_c := Lib.hid (e_c.out.on hb)
            replace BB := BW_on BB hb
            have k_b := blk1 w7 26 #[.slice q7 E.length c7]
            replace k_d := k_d.on (BW_alloc (BW_refl _) (.cells #[.slice q7 E.length c7] 26))
            replace k_p := k_p.on (BW_alloc (BW_refl _) (.cells #[.slice q7 E.length c7] 26))
            replace k_a := k_a.on (BW_alloc (BW_refl _) (.cells #[.slice q7 E.length c7] 26))
            replace k_c := k_c.on (BW_alloc (BW_refl _) (.cells #[.slice q7 E.length c7] 26))
            replace e_d := Lib.hid (e_d.out.on (BW_alloc (BW_refl _) (.cells #[.slice q7 E.length c7] 26)))
            replace e_a := Lib.hid (e_a.out.on (BW_alloc (BW_refl _) (.cells #[.slice q7 E.length c7] 26)))
            replace e_c := Lib.hid (e_c.out.on (BW_alloc (BW_refl _) (.cells #[.slice q7 E.length c7] 26)))
            replace BB := BW_on BB (BW_alloc (BW_refl _) (.cells #[.slice q7 E.length c7] 26))
            have e_b := Lib.hid (hen.on (BW_alloc (BW_refl _) (.cells #[.slice q7 E.length c7] 26)))
            clear hen hb HK
            go_upto_region 18 with (fail)
            change Code.wp _ _ _ _ (w7.alloc (.cells #[.slice q7 E.length c7] 26))
            generalize w7.alloc (.cells #[.slice q7 E.length c7] 26) = W8 at *
            refine wp_region_held_drew (S := BxS W8 [(w7.heap.size, 26, #[.slice q7 E.length c7]), (w1.heap.size, 26, #[.slice q E.length c]), (w6.heap.size, 26, #[.slice q6 C.length c6]), (w.heap.size, 35, #[.int .i64 pk, .string F, .string T, .string D, .int .u64 (limb m 0), .int .u64 (limb m 1), .int .u64 (limb m 2), .int .u64 (limb m 3), .bool praw, .bool psm])]) (by kernel_rfl) ((((((BxS.nil (BW_refl W8)).cons k_p).cons k_c).cons k_d).cons k_b)).drew (fun hH0 => ?_)
            refine wpAnyH_take (i := 0) (v := .int .i64 0) rfl (by kernel_rfl) (by kernel_rfl) (by kernel_rfl) (fun _ _ _ h => h) (yk_move (by kernel_rfl) _ rfl _ (by kernel_rfl)) hH0 ?_
            refine wpAnyH_take (i := 1) (v := .bool false) rfl (by kernel_rfl) (by kernel_rfl) (by kernel_rfl) (fun _ _ _ h => h) (yk_bin (by kernel_rfl) _ _ _ _ _ rfl (.int .i64 0) (.int .i64 0) (by kernel_rfl) (by kernel_rfl) _ (fun w' hw' => by go_simp)) hH0 ?_
            refine wpAnyH_take (i := 2) (v := .bool false) rfl (by kernel_rfl) (by kernel_rfl) (by kernel_rfl) (fun _ _ _ h => h) (yk_move (by kernel_rfl) _ rfl _ (by kernel_rfl)) hH0 ?_
            refine wpAnyH_take (i := 3) (v := .agg #[.slice q7 E.length c7]) rfl (by kernel_rfl) (by kernel_rfl) (by kernel_rfl) (fun _ _ _ h => h) (yk_load (by kernel_rfl) _ _ rfl (.pointer (some ⟨w7.heap.size, 0, none⟩)) (by kernel_rfl) _ (fun w' hw' => by have c0 := (hw'.bl _ (.head _)).cell 0; go_simp)) hH0 ?_
            refine wpAnyH_take (i := 4) (v := .agg #[.slice q E.length c]) rfl (by kernel_rfl) (by kernel_rfl) (by kernel_rfl) (fun _ _ _ h => h) (yk_load (by kernel_rfl) _ _ rfl (.pointer (some ⟨w1.heap.size, 0, none⟩)) (by kernel_rfl) _ (fun w' hw' => by have c0 := (hw'.bl _ (.tail _ (.head _))).cell 0; go_simp)) hH0 ?_
            refine wpAnyH_ready (rs := [5]) (by kernel_rfl) (by simp) ?_
            refine AllReadyH.cons rfl (fun K hK => ?_) AllReadyH.nil
            go_simp
            go_at_call 24
            refine (same_any _ _ E E _ (e_b.out.on hH0.hb) (e_d.out.on hH0.hb) (by omega) (by omega)).mono ?_
            rintro e w5 ⟨rfl, hd5⟩
            rw [decide_eq_true rfl]
            go_wp2_with fail
            refine hK.out _ _ (hH0.on hd5) (fun hH1 => ?_)
            clear hK K
            refine wpAnyH_take (i := 6) (v := .bool false) rfl (by kernel_rfl) (by kernel_rfl) (by kernel_rfl) (fun _ _ _ h => h) (yk_un (by kernel_rfl) _ _ _ rfl (.bool true) (by kernel_rfl) _ (fun w' hw' => by go_simp)) hH1 ?_
            refine wpAnyH_take (i := 7) (v := .bool false) rfl (by kernel_rfl) (by kernel_rfl) (by kernel_rfl) (fun _ _ _ h => h) (yk_pick (by kernel_rfl) _ _ _ rfl false (by kernel_rfl) _ (by kernel_rfl)) hH1 ?_
            refine wpAnyH_take (i := 8) (v := .bool false) rfl (by kernel_rfl) (by kernel_rfl) (by kernel_rfl) (fun _ _ _ h => h) (yk_move (by kernel_rfl) _ rfl _ (by kernel_rfl)) hH1 ?_
            refine wpAnyH_take (i := 9) (v := .agg #[.slice q6 C.length c6]) rfl (by kernel_rfl) (by kernel_rfl) (by kernel_rfl) (fun _ _ _ h => h) (yk_load (by kernel_rfl) _ _ rfl (.pointer (some ⟨w6.heap.size, 0, none⟩)) (by kernel_rfl) _ (fun w' hw' => by have c0 := (hw'.bl _ (.tail _ (.tail _ (.head _)))).cell 0; go_simp)) hH1 ?_
            refine wpAnyH_take (i := 10) (v := .pointer (some ⟨w.heap.size, 3, none⟩)) rfl (by kernel_rfl) (by kernel_rfl) (by kernel_rfl) (fun _ _ _ h => h) (yk_faB (by kernel_rfl) _ _ _ rfl (.pointer (some ⟨w.heap.size, 0, none⟩)) (by kernel_rfl) _ (fun w' hw' => by go_simp)) hH1 ?_
            refine wpAnyH_take (i := 11) (v := .string D) rfl (by kernel_rfl) (by kernel_rfl) (by kernel_rfl) (fun _ _ _ h => h) (yk_load (by kernel_rfl) _ _ rfl (.pointer (some ⟨w.heap.size, 3, none⟩)) (by kernel_rfl) _ (fun w' hw' => by have c3 := (hw'.bl _ (.tail _ (.tail _ (.tail _ (.head _))))).cell 3; go_simp)) hH1 ?_
            refine wpAnyH_take (i := 13) (v := .agg #[.slice q E.length c]) rfl (by kernel_rfl) (by kernel_rfl) (by kernel_rfl) (fun _ _ _ h => h) (yk_load (by kernel_rfl) _ _ rfl (.pointer (some ⟨w1.heap.size, 0, none⟩)) (by kernel_rfl) _ (fun w' hw' => by have c0 := (hw'.bl _ (.tail _ (.head _))).cell 0; go_simp)) hH1 ?_
            refine wpAnyH_take (i := 14) (v := .pointer (some ⟨w.heap.size, 3, none⟩)) rfl (by kernel_rfl) (by kernel_rfl) (by kernel_rfl) (fun _ _ _ h => h) (yk_faB (by kernel_rfl) _ _ _ rfl (.pointer (some ⟨w.heap.size, 0, none⟩)) (by kernel_rfl) _ (fun w' hw' => by go_simp)) hH1 ?_
            refine wpAnyH_take (i := 15) (v := .string D) rfl (by kernel_rfl) (by kernel_rfl) (by kernel_rfl) (fun _ _ _ h => h) (yk_load (by kernel_rfl) _ _ rfl (.pointer (some ⟨w.heap.size, 3, none⟩)) (by kernel_rfl) _ (fun w' hw' => by have c3 := (hw'.bl _ (.tail _ (.tail _ (.tail _ (.head _))))).cell 3; go_simp)) hH1 ?_
            refine wpAnyH_ready (rs := [12]) (by kernel_rfl) (by simp) ?_
            refine AllReadyH.cons rfl (fun K hK => ?_) AllReadyH.nil
            go_simp
            go_at_call 12
            refine (bsup_any _ C D _ (e_c.out.on hH1.hb) hsC.out (by omega) (by omega)).mono ?_
            rintro e w12 ⟨rfl, hd12⟩
            rw [Hsup.out]
            go_wp2_with fail
            refine hK.out _ _ (hH1.on hd12) (fun hH2 => ?_)
            clear hK K
            refine wpAnyH_ready (rs := [16]) (by kernel_rfl) (by simp) ?_
            refine AllReadyH.cons rfl (fun K hK => ?_) AllReadyH.nil
            go_simp
            go_at_call 12
            refine (bsup_any _ E D _ (e_d.out.on hH2.hb) hs.out (by omega) (by omega)).mono ?_
            rintro e w16 ⟨rfl, hd16⟩
            go_wp2_with fail
            refine hK.out _ _ (hH2.on hd16) (fun hH3 => ?_)
            clear hK K
            refine wpAnyH_take (i := 17) (v := .bool false) rfl (by kernel_rfl) (by kernel_rfl) (by kernel_rfl) (fun _ _ _ h => h) (yk_bin (by kernel_rfl) _ _ _ _ _ rfl (.agg #[.int .u64 (limb (ng E (totB D)) 0), .int .u64 (limb (ng E (totB D)) 1), .int .u64 (limb (ng E (totB D)) 2), .int .u64 (limb (ng E (totB D)) 3)]) (.agg #[.int .u64 (limb (ng E (totB D)) 0), .int .u64 (limb (ng E (totB D)) 1), .int .u64 (limb (ng E (totB D)) 2), .int .u64 (limb (ng E (totB D)) 3)]) (by kernel_rfl) (by kernel_rfl) _ (fun w' hw' => by have h0 := eqWd (ng E (totB D)) w'; go_simp)) hH3 ?_
            refine wpAnyH_take (i := 18) (v := .bool false) rfl (by kernel_rfl) (by kernel_rfl) (by kernel_rfl) (fun _ _ _ h => h) (yk_pick (by kernel_rfl) _ _ _ rfl false (by kernel_rfl) _ (by kernel_rfl)) hH3 ?_
            refine wpAnyH_done (by kernel_rfl) ?_ _
            have hB := hH3.hb
            go_wp2_with fail
            go_ret
            exact ⟨rfl, BW_on BB hB⟩
          · have c_c := fun i => k_c.cell i
            go_wp2_with fail
            go_ret
            exact ⟨rfl, BB⟩
      · obtain ⟨m, hm, hsm⟩ := small11_any pk pf pt pd pn praw psm hpn
        have zf := smT_size praw 1 pf
        have zt := smT_size praw 1 pt
        have zd := smT_size praw 3 pd
        generalize smT praw 1 pf = F at *
        generalize smT praw 1 pt = T at *
        generalize smT praw 3 pd = D at *
        have Hsm := Lib.hid hsm
        clear hsm
        have c_p := fun i => k_p.cell i
        go_wp2_with fail
        refine (Hsm.out _).mono ?_
        rintro e w2 ⟨rfl, hb⟩
        clear c_p
        replace k_d := k_d.on hb
        replace k_p := k_p.on hb
        replace e_d := Lib.hid (e_d.out.on hb)
        replace BB := BW_on BB hb
        clear hb Hsm
        have c_p := fun i => k_p.cell i
        have f_p := fun i => k_p.free i
        have hgdp : w1.heap.size ≠ w.heap.size := by omega
        have kp2 := k_p.store10 (.int .i64 pk) (.string F) (.string T) (.string D) (.int .u64 (limb m 0)) (.int .u64 (limb m 1)) (.int .u64 (limb m 2)) (.int .u64 (limb m 3)) (.bool praw) (.bool psm)
        have kd2 := k_d.far10 hgdp (.int .i64 pk) (.string F) (.string T) (.string D) (.int .u64 (limb m 0)) (.int .u64 (limb m 1)) (.int .u64 (limb m 2)) (.int .u64 (limb m 3)) (.bool praw) (.bool psm)
        have ed2 := Lib.hid (e_d.out.box10 k_p hc.out.one (.int .i64 pk) (.string F) (.string T) (.string D) (.int .u64 (limb m 0)) (.int .u64 (limb m 1)) (.int .u64 (limb m 2)) (.int .u64 (limb m 3)) (.bool praw) (.bool psm))
        have bb2 := below_store10 BB (Nat.le_refl w.heap.size) (.int .i64 pk) (.string F) (.string T) (.string D) (.int .u64 (limb m 0)) (.int .u64 (limb m 1)) (.int .u64 (limb m 2)) (.int .u64 (limb m 3)) (.bool praw) (.bool psm)
        clear k_p k_d e_d BB
        go_upto_region 10 with (fail)
        change Code.wp _ _ _ _ ((((((((((w2.setCell ⟨w.heap.size, 0, none⟩ (.int .i64 pk)).setCell ⟨w.heap.size, 1, none⟩ (.string F)).setCell ⟨w.heap.size, 2, none⟩ (.string T)).setCell ⟨w.heap.size, 3, none⟩ (.string D)).setCell ⟨w.heap.size, 4, none⟩ (.int .u64 (limb m 0))).setCell ⟨w.heap.size, 5, none⟩ (.int .u64 (limb m 1))).setCell ⟨w.heap.size, 6, none⟩ (.int .u64 (limb m 2))).setCell ⟨w.heap.size, 7, none⟩ (.int .u64 (limb m 3))).setCell ⟨w.heap.size, 8, none⟩ (.bool praw)).setCell ⟨w.heap.size, 9, none⟩ (.bool psm))
        clear c_p f_p
        generalize (((((((((w2.setCell ⟨w.heap.size, 0, none⟩ (.int .i64 pk)).setCell ⟨w.heap.size, 1, none⟩ (.string F)).setCell ⟨w.heap.size, 2, none⟩ (.string T)).setCell ⟨w.heap.size, 3, none⟩ (.string D)).setCell ⟨w.heap.size, 4, none⟩ (.int .u64 (limb m 0))).setCell ⟨w.heap.size, 5, none⟩ (.int .u64 (limb m 1))).setCell ⟨w.heap.size, 6, none⟩ (.int .u64 (limb m 2))).setCell ⟨w.heap.size, 7, none⟩ (.int .u64 (limb m 3))).setCell ⟨w.heap.size, 8, none⟩ (.bool praw)).setCell ⟨w.heap.size, 9, none⟩ (.bool psm) = W3 at *
        have k_p := kp2
        have k_d := kd2
        have e_d := ed2
        have BB := bb2
        clear kp2 kd2 ed2 bb2
        rcases hR : mintL E F D m with ⟨x1, A⟩
        have HM := fun w v hv => bmint_any v E F D m w hv hs.out (by omega) hm
        rw [hR] at HM
        replace HM := Lib.hid HM
        have c_d := fun i => k_d.cell i
        have c_p := fun i => k_p.cell i
        go_wp2_with fail
        refine (HM.out _ _ e_d.out).mono ?_
        rintro e w4 ⟨q4, c4, rfl, hen, hb⟩
        clear c_d c_p
        replace k_d := k_d.on hb
        replace k_p := k_p.on hb
        replace e_d := Lib.hid (e_d.out.on hb)
        replace BB := BW_on BB hb
        replace k_d := k_d.on (BW_alloc (BW_refl _) (.cells #[.slice q4 A.length c4] 26))
        replace k_p := k_p.on (BW_alloc (BW_refl _) (.cells #[.slice q4 A.length c4] 26))
        replace e_d := Lib.hid (e_d.out.on (BW_alloc (BW_refl _) (.cells #[.slice q4 A.length c4] 26)))
        replace BB := BW_on BB (BW_alloc (BW_refl _) (.cells #[.slice q4 A.length c4] 26))
        have k_a := blk1 w4 26 #[.slice q4 A.length c4]
        have e_a := Lib.hid (hen.on (BW_alloc (BW_refl _) (.cells #[.slice q4 A.length c4] 26)))
        clear hen hb HM
        by_cases hx1 : x1 = 0
        · subst hx1
          have hback := mint_burn hs.out hc.out.1 hR
          have hinv := mint_inv hs.out F D m
          rw [hR] at hinv
          have hsA : Hid (Srt A) := hinv.1
          have hlA : A.length ≤ E.length + 2 := hinv.2
          have HK := fun w v hv => bburn_any v A F D m w hv hsA.out (by omega) hm
          rw [hback] at HK
          replace HK := Lib.hid HK
          clear hinv hback hR
          have c_a := fun i => k_a.cell i
          have c_p := fun i => k_p.cell i
          have c_d := fun i => k_d.cell i
          go_wp2_with fail
          refine (HK.out _ _ e_a.out).mono ?_
          rintro e w5 ⟨q5, c5, rfl, hen, hb⟩
          clear c_a c_p c_d
          replace k_d := k_d.on hb
          replace k_p := k_p.on hb
          replace k_a := k_a.on hb
          replace e_d := Lib.hid (e_d.out.on hb)
          replace e_a := Lib.hid (e_a.out.on hb)
          replace BB := BW_on BB hb
          have k_b := blk1 w5 26 #[.slice q5 E.length c5]
          replace k_d := k_d.on (BW_alloc (BW_refl _) (.cells #[.slice q5 E.length c5] 26))
          replace k_p := k_p.on (BW_alloc (BW_refl _) (.cells #[.slice q5 E.length c5] 26))
          replace k_a := k_a.on (BW_alloc (BW_refl _) (.cells #[.slice q5 E.length c5] 26))
          replace e_d := Lib.hid (e_d.out.on (BW_alloc (BW_refl _) (.cells #[.slice q5 E.length c5] 26)))
          replace e_a := Lib.hid (e_a.out.on (BW_alloc (BW_refl _) (.cells #[.slice q5 E.length c5] 26)))
          replace BB := BW_on BB (BW_alloc (BW_refl _) (.cells #[.slice q5 E.length c5] 26))
          have e_b := Lib.hid (hen.on (BW_alloc (BW_refl _) (.cells #[.slice q5 E.length c5] 26)))
          clear hen hb HK
          have c_b := fun i => k_b.cell i
          have c_d := fun i => k_d.cell i
          go_wp2_with fail
          refine (same_any _ _ E E _ e_b.out e_d.out (by omega) (by omega)).mono ?_
          rintro e wS ⟨rfl, hb⟩
          clear c_b c_d
          replace k_d := k_d.on hb
          replace k_p := k_p.on hb
          replace k_a := k_a.on hb
          replace k_b := k_b.on hb
          replace e_d := Lib.hid (e_d.out.on hb)
          replace e_a := Lib.hid (e_a.out.on hb)
          replace e_b := Lib.hid (e_b.out.on hb)
          replace BB := BW_on BB hb
          clear hb
          rw [decide_eq_true rfl]
          clear k_a
          clear e_a
          clear k_b
          clear e_b
          rcases hR2 : moveL E F T D m with ⟨x2, C⟩
          have HV := fun w v hv => bmove_any v E F T D m w hv hs.out (by omega) hm
          rw [hR2] at HV
          replace HV := Lib.hid HV
          have c_d := fun i => k_d.cell i
          have c_p := fun i => k_p.cell i
          go_wp2_with fail
          refine (HV.out _ _ e_d.out).mono ?_
          rintro e w6 ⟨q6, c6, rfl, hen, hb⟩
          clear c_d c_p
          replace k_d := k_d.on hb
          replace k_p := k_p.on hb
          replace e_d := Lib.hid (e_d.out.on hb)
          replace BB := BW_on BB hb
          replace k_d := k_d.on (BW_alloc (BW_refl _) (.cells #[.slice q6 C.length c6] 26))
          replace k_p := k_p.on (BW_alloc (BW_refl _) (.cells #[.slice q6 C.length c6] 26))
          replace e_d := Lib.hid (e_d.out.on (BW_alloc (BW_refl _) (.cells #[.slice q6 C.length c6] 26)))
          replace BB := BW_on BB (BW_alloc (BW_refl _) (.cells #[.slice q6 C.length c6] 26))
          have k_c := blk1 w6 26 #[.slice q6 C.length c6]
          have e_c := Lib.hid (hen.on (BW_alloc (BW_refl _) (.cells #[.slice q6 C.length c6] 26)))
          clear hen hb HV
          by_cases hx2 : x2 = 0
          · subst hx2
            obtain ⟨hback, hsup⟩ := move_back hs.out hc.out.1 hR2
            have hinv := move_inv hs.out F T D m
            rw [hR2] at hinv
            have hsC : Hid (Srt C) := hinv.1
            have hlC : C.length ≤ E.length + 2 := hinv.2
            have HK := fun w v hv => bmove_any v C T F D m w hv hsC.out (by omega) hm
            rw [hback] at HK
            replace HK := Lib.hid HK
            have Hsup := Lib.hid hsup
            clear hinv hback hsup hR2
            have c_c := fun i => k_c.cell i
            have c_p := fun i => k_p.cell i
            go_wp2_with fail
            refine (HK.out _ _ e_c.out).mono ?_
            rintro e w7 ⟨q7, c7, rfl, hen, hb⟩
            clear c_c c_p
            replace k_d := k_d.on hb
            replace k_p := k_p.on hb
            replace k_c := k_c.on hb
            replace e_d := Lib.hid (e_d.out.on hb)
            replace e_c := Lib.hid (e_c.out.on hb)
            replace BB := BW_on BB hb
            have k_b := blk1 w7 26 #[.slice q7 E.length c7]
            replace k_d := k_d.on (BW_alloc (BW_refl _) (.cells #[.slice q7 E.length c7] 26))
            replace k_p := k_p.on (BW_alloc (BW_refl _) (.cells #[.slice q7 E.length c7] 26))
            replace k_c := k_c.on (BW_alloc (BW_refl _) (.cells #[.slice q7 E.length c7] 26))
            replace e_d := Lib.hid (e_d.out.on (BW_alloc (BW_refl _) (.cells #[.slice q7 E.length c7] 26)))
            replace e_c := Lib.hid (e_c.out.on (BW_alloc (BW_refl _) (.cells #[.slice q7 E.length c7] 26)))
            replace BB := BW_on BB (BW_alloc (BW_refl _) (.cells #[.slice q7 E.length c7] 26))
            have e_b := Lib.hid (hen.on (BW_alloc (BW_refl _) (.cells #[.slice q7 E.length c7] 26)))
            clear hen hb HK
            go_upto_region 18 with (fail)
            change Code.wp _ _ _ _ (w7.alloc (.cells #[.slice q7 E.length c7] 26))
            generalize w7.alloc (.cells #[.slice q7 E.length c7] 26) = W8 at *
            refine wp_region_held_drew (S := BxS W8 [(w7.heap.size, 26, #[.slice q7 E.length c7]), (w1.heap.size, 26, #[.slice q E.length c]), (w6.heap.size, 26, #[.slice q6 C.length c6]), (w.heap.size, 35, #[.int .i64 pk, .string F, .string T, .string D, .int .u64 (limb m 0), .int .u64 (limb m 1), .int .u64 (limb m 2), .int .u64 (limb m 3), .bool praw, .bool psm])]) (by kernel_rfl) ((((((BxS.nil (BW_refl W8)).cons k_p).cons k_c).cons k_d).cons k_b)).drew (fun hH0 => ?_)
            refine wpAnyH_take (i := 0) (v := .int .i64 0) rfl (by kernel_rfl) (by kernel_rfl) (by kernel_rfl) (fun _ _ _ h => h) (yk_move (by kernel_rfl) _ rfl _ (by kernel_rfl)) hH0 ?_
            refine wpAnyH_take (i := 1) (v := .bool false) rfl (by kernel_rfl) (by kernel_rfl) (by kernel_rfl) (fun _ _ _ h => h) (yk_bin (by kernel_rfl) _ _ _ _ _ rfl (.int .i64 0) (.int .i64 0) (by kernel_rfl) (by kernel_rfl) _ (fun w' hw' => by go_simp)) hH0 ?_
            refine wpAnyH_take (i := 2) (v := .bool false) rfl (by kernel_rfl) (by kernel_rfl) (by kernel_rfl) (fun _ _ _ h => h) (yk_move (by kernel_rfl) _ rfl _ (by kernel_rfl)) hH0 ?_
            refine wpAnyH_take (i := 3) (v := .agg #[.slice q7 E.length c7]) rfl (by kernel_rfl) (by kernel_rfl) (by kernel_rfl) (fun _ _ _ h => h) (yk_load (by kernel_rfl) _ _ rfl (.pointer (some ⟨w7.heap.size, 0, none⟩)) (by kernel_rfl) _ (fun w' hw' => by have c0 := (hw'.bl _ (.head _)).cell 0; go_simp)) hH0 ?_
            refine wpAnyH_take (i := 4) (v := .agg #[.slice q E.length c]) rfl (by kernel_rfl) (by kernel_rfl) (by kernel_rfl) (fun _ _ _ h => h) (yk_load (by kernel_rfl) _ _ rfl (.pointer (some ⟨w1.heap.size, 0, none⟩)) (by kernel_rfl) _ (fun w' hw' => by have c0 := (hw'.bl _ (.tail _ (.head _))).cell 0; go_simp)) hH0 ?_
            refine wpAnyH_ready (rs := [5]) (by kernel_rfl) (by simp) ?_
            refine AllReadyH.cons rfl (fun K hK => ?_) AllReadyH.nil
            go_simp
            go_at_call 24
            refine (same_any _ _ E E _ (e_b.out.on hH0.hb) (e_d.out.on hH0.hb) (by omega) (by omega)).mono ?_
            rintro e w5 ⟨rfl, hd5⟩
            rw [decide_eq_true rfl]
            go_wp2_with fail
            refine hK.out _ _ (hH0.on hd5) (fun hH1 => ?_)
            clear hK K
            refine wpAnyH_take (i := 6) (v := .bool false) rfl (by kernel_rfl) (by kernel_rfl) (by kernel_rfl) (fun _ _ _ h => h) (yk_un (by kernel_rfl) _ _ _ rfl (.bool true) (by kernel_rfl) _ (fun w' hw' => by go_simp)) hH1 ?_
            refine wpAnyH_take (i := 7) (v := .bool false) rfl (by kernel_rfl) (by kernel_rfl) (by kernel_rfl) (fun _ _ _ h => h) (yk_pick (by kernel_rfl) _ _ _ rfl false (by kernel_rfl) _ (by kernel_rfl)) hH1 ?_
            refine wpAnyH_take (i := 8) (v := .bool false) rfl (by kernel_rfl) (by kernel_rfl) (by kernel_rfl) (fun _ _ _ h => h) (yk_move (by kernel_rfl) _ rfl _ (by kernel_rfl)) hH1 ?_
            refine wpAnyH_take (i := 9) (v := .agg #[.slice q6 C.length c6]) rfl (by kernel_rfl) (by kernel_rfl) (by kernel_rfl) (fun _ _ _ h => h) (yk_load (by kernel_rfl) _ _ rfl (.pointer (some ⟨w6.heap.size, 0, none⟩)) (by kernel_rfl) _ (fun w' hw' => by have c0 := (hw'.bl _ (.tail _ (.tail _ (.head _)))).cell 0; go_simp)) hH1 ?_
            refine wpAnyH_take (i := 10) (v := .pointer (some ⟨w.heap.size, 3, none⟩)) rfl (by kernel_rfl) (by kernel_rfl) (by kernel_rfl) (fun _ _ _ h => h) (yk_faB (by kernel_rfl) _ _ _ rfl (.pointer (some ⟨w.heap.size, 0, none⟩)) (by kernel_rfl) _ (fun w' hw' => by go_simp)) hH1 ?_
            refine wpAnyH_take (i := 11) (v := .string D) rfl (by kernel_rfl) (by kernel_rfl) (by kernel_rfl) (fun _ _ _ h => h) (yk_load (by kernel_rfl) _ _ rfl (.pointer (some ⟨w.heap.size, 3, none⟩)) (by kernel_rfl) _ (fun w' hw' => by have c3 := (hw'.bl _ (.tail _ (.tail _ (.tail _ (.head _))))).cell 3; go_simp)) hH1 ?_
            refine wpAnyH_take (i := 13) (v := .agg #[.slice q E.length c]) rfl (by kernel_rfl) (by kernel_rfl) (by kernel_rfl) (fun _ _ _ h => h) (yk_load (by kernel_rfl) _ _ rfl (.pointer (some ⟨w1.heap.size, 0, none⟩)) (by kernel_rfl) _ (fun w' hw' => by have c0 := (hw'.bl _ (.tail _ (.head _))).cell 0; go_simp)) hH1 ?_
            refine wpAnyH_take (i := 14) (v := .pointer (some ⟨w.heap.size, 3, none⟩)) rfl (by kernel_rfl) (by kernel_rfl) (by kernel_rfl) (fun _ _ _ h => h) (yk_faB (by kernel_rfl) _ _ _ rfl (.pointer (some ⟨w.heap.size, 0, none⟩)) (by kernel_rfl) _ (fun w' hw' => by go_simp)) hH1 ?_
            refine wpAnyH_take (i := 15) (v := .string D) rfl (by kernel_rfl) (by kernel_rfl) (by kernel_rfl) (fun _ _ _ h => h) (yk_load (by kernel_rfl) _ _ rfl (.pointer (some ⟨w.heap.size, 3, none⟩)) (by kernel_rfl) _ (fun w' hw' => by have c3 := (hw'.bl _ (.tail _ (.tail _ (.tail _ (.head _))))).cell 3; go_simp)) hH1 ?_
            refine wpAnyH_ready (rs := [12]) (by kernel_rfl) (by simp) ?_
            refine AllReadyH.cons rfl (fun K hK => ?_) AllReadyH.nil
            go_simp
            go_at_call 12
            refine (bsup_any _ C D _ (e_c.out.on hH1.hb) hsC.out (by omega) (by omega)).mono ?_
            rintro e w12 ⟨rfl, hd12⟩
            rw [Hsup.out]
            go_wp2_with fail
            refine hK.out _ _ (hH1.on hd12) (fun hH2 => ?_)
            clear hK K
            refine wpAnyH_ready (rs := [16]) (by kernel_rfl) (by simp) ?_
            refine AllReadyH.cons rfl (fun K hK => ?_) AllReadyH.nil
            go_simp
            go_at_call 12
            refine (bsup_any _ E D _ (e_d.out.on hH2.hb) hs.out (by omega) (by omega)).mono ?_
            rintro e w16 ⟨rfl, hd16⟩
            go_wp2_with fail
            refine hK.out _ _ (hH2.on hd16) (fun hH3 => ?_)
            clear hK K
            refine wpAnyH_take (i := 17) (v := .bool false) rfl (by kernel_rfl) (by kernel_rfl) (by kernel_rfl) (fun _ _ _ h => h) (yk_bin (by kernel_rfl) _ _ _ _ _ rfl (.agg #[.int .u64 (limb (ng E (totB D)) 0), .int .u64 (limb (ng E (totB D)) 1), .int .u64 (limb (ng E (totB D)) 2), .int .u64 (limb (ng E (totB D)) 3)]) (.agg #[.int .u64 (limb (ng E (totB D)) 0), .int .u64 (limb (ng E (totB D)) 1), .int .u64 (limb (ng E (totB D)) 2), .int .u64 (limb (ng E (totB D)) 3)]) (by kernel_rfl) (by kernel_rfl) _ (fun w' hw' => by have h0 := eqWd (ng E (totB D)) w'; go_simp)) hH3 ?_
            refine wpAnyH_take (i := 18) (v := .bool false) rfl (by kernel_rfl) (by kernel_rfl) (by kernel_rfl) (fun _ _ _ h => h) (yk_pick (by kernel_rfl) _ _ _ rfl false (by kernel_rfl) _ (by kernel_rfl)) hH3 ?_
            refine wpAnyH_done (by kernel_rfl) ?_ _
            have hB := hH3.hb
            go_wp2_with fail
            go_ret
            exact ⟨rfl, BW_on BB hB⟩
          · have c_c := fun i => k_c.cell i
            go_wp2_with fail
            go_ret
            exact ⟨rfl, BB⟩
        · clear hR
          rcases hR2 : moveL E F T D m with ⟨x2, C⟩
          have HV := fun w v hv => bmove_any v E F T D m w hv hs.out (by omega) hm
          rw [hR2] at HV
          replace HV := Lib.hid HV
          have c_d := fun i => k_d.cell i
          have c_p := fun i => k_p.cell i
          have c_a := fun i => k_a.cell i
          go_wp2_with fail
          refine (HV.out _ _ e_d.out).mono ?_
          rintro e w6 ⟨q6, c6, rfl, hen, hb⟩
          clear c_d c_p c_a
          replace k_d := k_d.on hb
          replace k_p := k_p.on hb
          replace k_a := k_a.on hb
          replace e_d := Lib.hid (e_d.out.on hb)
          replace e_a := Lib.hid (e_a.out.on hb)
          replace BB := BW_on BB hb
          replace k_d := k_d.on (BW_alloc (BW_refl _) (.cells #[.slice q6 C.length c6] 26))
          replace k_p := k_p.on (BW_alloc (BW_refl _) (.cells #[.slice q6 C.length c6] 26))
          replace k_a := k_a.on (BW_alloc (BW_refl _) (.cells #[.slice q6 C.length c6] 26))
          replace e_d := Lib.hid (e_d.out.on (BW_alloc (BW_refl _) (.cells #[.slice q6 C.length c6] 26)))
          replace e_a := Lib.hid (e_a.out.on (BW_alloc (BW_refl _) (.cells #[.slice q6 C.length c6] 26)))
          replace BB := BW_on BB (BW_alloc (BW_refl _) (.cells #[.slice q6 C.length c6] 26))
          have k_c := blk1 w6 26 #[.slice q6 C.length c6]
          have e_c := Lib.hid (hen.on (BW_alloc (BW_refl _) (.cells #[.slice q6 C.length c6] 26)))
          clear hen hb HV
          by_cases hx2 : x2 = 0
          · subst hx2
            obtain ⟨hback, hsup⟩ := move_back hs.out hc.out.1 hR2
            have hinv := move_inv hs.out F T D m
            rw [hR2] at hinv
            have hsC : Hid (Srt C) := hinv.1
            have hlC : C.length ≤ E.length + 2 := hinv.2
            have HK := fun w v hv => bmove_any v C T F D m w hv hsC.out (by omega) hm
            rw [hback] at HK
            replace HK := Lib.hid HK
            have Hsup := Lib.hid hsup
            clear hinv hback hsup hR2
            have c_c := fun i => k_c.cell i
            have c_p := fun i => k_p.cell i
            go_wp2_with fail
            refine (HK.out _ _ e_c.out).mono ?_
            rintro e w7 ⟨q7, c7, rfl, hen, hb⟩
            clear c_c c_p
            replace k_d := k_d.on hb
            replace k_p := k_p.on hb
            replace k_a := k_a.on hb
            replace k_c := k_c.on hb
            replace e_d := Lib.hid (e_d.out.on hb)
            replace e_a := Lib.hid (e_a.out.on hb)
            replace e_c := Lib.hid (e_c.out.on hb)
            replace BB := BW_on BB hb
            have k_b := blk1 w7 26 #[.slice q7 E.length c7]
            replace k_d := k_d.on (BW_alloc (BW_refl _) (.cells #[.slice q7 E.length c7] 26))
            replace k_p := k_p.on (BW_alloc (BW_refl _) (.cells #[.slice q7 E.length c7] 26))
            replace k_a := k_a.on (BW_alloc (BW_refl _) (.cells #[.slice q7 E.length c7] 26))
            replace k_c := k_c.on (BW_alloc (BW_refl _) (.cells #[.slice q7 E.length c7] 26))
            replace e_d := Lib.hid (e_d.out.on (BW_alloc (BW_refl _) (.cells #[.slice q7 E.length c7] 26)))
            replace e_a := Lib.hid (e_a.out.on (BW_alloc (BW_refl _) (.cells #[.slice q7 E.length c7] 26)))
            replace e_c := Lib.hid (e_c.out.on (BW_alloc (BW_refl _) (.cells #[.slice q7 E.length c7] 26)))
            replace BB := BW_on BB (BW_alloc (BW_refl _) (.cells #[.slice q7 E.length c7] 26))
            have e_b := Lib.hid (hen.on (BW_alloc (BW_refl _) (.cells #[.slice q7 E.length c7] 26)))
            clear hen hb HK
            go_upto_region 18 with (fail)
            change Code.wp _ _ _ _ (w7.alloc (.cells #[.slice q7 E.length c7] 26))
            generalize w7.alloc (.cells #[.slice q7 E.length c7] 26) = W8 at *
            refine wp_region_held_drew (S := BxS W8 [(w7.heap.size, 26, #[.slice q7 E.length c7]), (w1.heap.size, 26, #[.slice q E.length c]), (w6.heap.size, 26, #[.slice q6 C.length c6]), (w.heap.size, 35, #[.int .i64 pk, .string F, .string T, .string D, .int .u64 (limb m 0), .int .u64 (limb m 1), .int .u64 (limb m 2), .int .u64 (limb m 3), .bool praw, .bool psm])]) (by kernel_rfl) ((((((BxS.nil (BW_refl W8)).cons k_p).cons k_c).cons k_d).cons k_b)).drew (fun hH0 => ?_)
            refine wpAnyH_take (i := 0) (v := .int .i64 0) rfl (by kernel_rfl) (by kernel_rfl) (by kernel_rfl) (fun _ _ _ h => h) (yk_move (by kernel_rfl) _ rfl _ (by kernel_rfl)) hH0 ?_
            refine wpAnyH_take (i := 1) (v := .bool false) rfl (by kernel_rfl) (by kernel_rfl) (by kernel_rfl) (fun _ _ _ h => h) (yk_bin (by kernel_rfl) _ _ _ _ _ rfl (.int .i64 0) (.int .i64 0) (by kernel_rfl) (by kernel_rfl) _ (fun w' hw' => by go_simp)) hH0 ?_
            refine wpAnyH_take (i := 2) (v := .bool false) rfl (by kernel_rfl) (by kernel_rfl) (by kernel_rfl) (fun _ _ _ h => h) (yk_move (by kernel_rfl) _ rfl _ (by kernel_rfl)) hH0 ?_
            refine wpAnyH_take (i := 3) (v := .agg #[.slice q7 E.length c7]) rfl (by kernel_rfl) (by kernel_rfl) (by kernel_rfl) (fun _ _ _ h => h) (yk_load (by kernel_rfl) _ _ rfl (.pointer (some ⟨w7.heap.size, 0, none⟩)) (by kernel_rfl) _ (fun w' hw' => by have c0 := (hw'.bl _ (.head _)).cell 0; go_simp)) hH0 ?_
            refine wpAnyH_take (i := 4) (v := .agg #[.slice q E.length c]) rfl (by kernel_rfl) (by kernel_rfl) (by kernel_rfl) (fun _ _ _ h => h) (yk_load (by kernel_rfl) _ _ rfl (.pointer (some ⟨w1.heap.size, 0, none⟩)) (by kernel_rfl) _ (fun w' hw' => by have c0 := (hw'.bl _ (.tail _ (.head _))).cell 0; go_simp)) hH0 ?_
            refine wpAnyH_ready (rs := [5]) (by kernel_rfl) (by simp) ?_
            refine AllReadyH.cons rfl (fun K hK => ?_) AllReadyH.nil
            go_simp
            go_at_call 24
            refine (same_any _ _ E E _ (e_b.out.on hH0.hb) (e_d.out.on hH0.hb) (by omega) (by omega)).mono ?_
            rintro e w5 ⟨rfl, hd5⟩
            rw [decide_eq_true rfl]
            go_wp2_with fail
            refine hK.out _ _ (hH0.on hd5) (fun hH1 => ?_)
            clear hK K
            refine wpAnyH_take (i := 6) (v := .bool false) rfl (by kernel_rfl) (by kernel_rfl) (by kernel_rfl) (fun _ _ _ h => h) (yk_un (by kernel_rfl) _ _ _ rfl (.bool true) (by kernel_rfl) _ (fun w' hw' => by go_simp)) hH1 ?_
            refine wpAnyH_take (i := 7) (v := .bool false) rfl (by kernel_rfl) (by kernel_rfl) (by kernel_rfl) (fun _ _ _ h => h) (yk_pick (by kernel_rfl) _ _ _ rfl false (by kernel_rfl) _ (by kernel_rfl)) hH1 ?_
            refine wpAnyH_take (i := 8) (v := .bool false) rfl (by kernel_rfl) (by kernel_rfl) (by kernel_rfl) (fun _ _ _ h => h) (yk_move (by kernel_rfl) _ rfl _ (by kernel_rfl)) hH1 ?_
            refine wpAnyH_take (i := 9) (v := .agg #[.slice q6 C.length c6]) rfl (by kernel_rfl) (by kernel_rfl) (by kernel_rfl) (fun _ _ _ h => h) (yk_load (by kernel_rfl) _ _ rfl (.pointer (some ⟨w6.heap.size, 0, none⟩)) (by kernel_rfl) _ (fun w' hw' => by have c0 := (hw'.bl _ (.tail _ (.tail _ (.head _)))).cell 0; go_simp)) hH1 ?_
            refine wpAnyH_take (i := 10) (v := .pointer (some ⟨w.heap.size, 3, none⟩)) rfl (by kernel_rfl) (by kernel_rfl) (by kernel_rfl) (fun _ _ _ h => h) (yk_faB (by kernel_rfl) _ _ _ rfl (.pointer (some ⟨w.heap.size, 0, none⟩)) (by kernel_rfl) _ (fun w' hw' => by go_simp)) hH1 ?_
            refine wpAnyH_take (i := 11) (v := .string D) rfl (by kernel_rfl) (by kernel_rfl) (by kernel_rfl) (fun _ _ _ h => h) (yk_load (by kernel_rfl) _ _ rfl (.pointer (some ⟨w.heap.size, 3, none⟩)) (by kernel_rfl) _ (fun w' hw' => by have c3 := (hw'.bl _ (.tail _ (.tail _ (.tail _ (.head _))))).cell 3; go_simp)) hH1 ?_
            refine wpAnyH_take (i := 13) (v := .agg #[.slice q E.length c]) rfl (by kernel_rfl) (by kernel_rfl) (by kernel_rfl) (fun _ _ _ h => h) (yk_load (by kernel_rfl) _ _ rfl (.pointer (some ⟨w1.heap.size, 0, none⟩)) (by kernel_rfl) _ (fun w' hw' => by have c0 := (hw'.bl _ (.tail _ (.head _))).cell 0; go_simp)) hH1 ?_
            refine wpAnyH_take (i := 14) (v := .pointer (some ⟨w.heap.size, 3, none⟩)) rfl (by kernel_rfl) (by kernel_rfl) (by kernel_rfl) (fun _ _ _ h => h) (yk_faB (by kernel_rfl) _ _ _ rfl (.pointer (some ⟨w.heap.size, 0, none⟩)) (by kernel_rfl) _ (fun w' hw' => by go_simp)) hH1 ?_
            refine wpAnyH_take (i := 15) (v := .string D) rfl (by kernel_rfl) (by kernel_rfl) (by kernel_rfl) (fun _ _ _ h => h) (yk_load (by kernel_rfl) _ _ rfl (.pointer (some ⟨w.heap.size, 3, none⟩)) (by kernel_rfl) _ (fun w' hw' => by have c3 := (hw'.bl _ (.tail _ (.tail _ (.tail _ (.head _))))).cell 3; go_simp)) hH1 ?_
            refine wpAnyH_ready (rs := [12]) (by kernel_rfl) (by simp) ?_
            refine AllReadyH.cons rfl (fun K hK => ?_) AllReadyH.nil
            go_simp
            go_at_call 12
            refine (bsup_any _ C D _ (e_c.out.on hH1.hb) hsC.out (by omega) (by omega)).mono ?_
            rintro e w12 ⟨rfl, hd12⟩
            rw [Hsup.out]
            go_wp2_with fail
            refine hK.out _ _ (hH1.on hd12) (fun hH2 => ?_)
            clear hK K
            refine wpAnyH_ready (rs := [16]) (by kernel_rfl) (by simp) ?_
            refine AllReadyH.cons rfl (fun K hK => ?_) AllReadyH.nil
            go_simp
            go_at_call 12
            refine (bsup_any _ E D _ (e_d.out.on hH2.hb) hs.out (by omega) (by omega)).mono ?_
            rintro e w16 ⟨rfl, hd16⟩
            go_wp2_with fail
            refine hK.out _ _ (hH2.on hd16) (fun hH3 => ?_)
            clear hK K
            refine wpAnyH_take (i := 17) (v := .bool false) rfl (by kernel_rfl) (by kernel_rfl) (by kernel_rfl) (fun _ _ _ h => h) (yk_bin (by kernel_rfl) _ _ _ _ _ rfl (.agg #[.int .u64 (limb (ng E (totB D)) 0), .int .u64 (limb (ng E (totB D)) 1), .int .u64 (limb (ng E (totB D)) 2), .int .u64 (limb (ng E (totB D)) 3)]) (.agg #[.int .u64 (limb (ng E (totB D)) 0), .int .u64 (limb (ng E (totB D)) 1), .int .u64 (limb (ng E (totB D)) 2), .int .u64 (limb (ng E (totB D)) 3)]) (by kernel_rfl) (by kernel_rfl) _ (fun w' hw' => by have h0 := eqWd (ng E (totB D)) w'; go_simp)) hH3 ?_
            refine wpAnyH_take (i := 18) (v := .bool false) rfl (by kernel_rfl) (by kernel_rfl) (by kernel_rfl) (fun _ _ _ h => h) (yk_pick (by kernel_rfl) _ _ _ rfl false (by kernel_rfl) _ (by kernel_rfl)) hH3 ?_
            refine wpAnyH_done (by kernel_rfl) ?_ _
            have hB := hH3.hb
            go_wp2_with fail
            go_ret
            exact ⟨rfl, BW_on BB hB⟩
          · have c_c := fun i => k_c.cell i
            go_wp2_with fail
            go_ret
            exact ⟨rfl, BB⟩
end
set_option maxRecDepth 100000 in
theorem l11back_lifted (os : Os) (started : os.Started) (H : Type) (enc : TypeId × Value → H) :
    ReturnsInHanded {} Try.checked os 5 .any (Rows.bankBackSpec.pre6 enc Try.prog Try.f5 Rows.bankBackRow.domain false) (Rows.bankBackSpec.post enc Try.prog Try.f5 false true false false) := by
  refine law_lifted (C := Try.checked) (tb := 4) (by kernel_rfl) started (by kernel_rfl) Try.func5
    (ChangeSpec.witness6 (enc := enc) (C := Try.checked) false ⟨#[], #[.slice none 0 0, .agg #[.int .i64 0, .string ⟨#[]⟩, .string ⟨#[]⟩, .string ⟨#[]⟩, .int .u64 0, .int .u64 0, .int .u64 0, .int .u64 0, .bool false, .bool false]], []⟩ 8 (by kernel_rfl) (by kernel_rfl) (by kernel_rfl) (by kernel_rfl))
    (by kernel_rfl) (by kernel_rfl) (by kernel_rfl) Try.underlying4 rfl ?_ ?_
  · intro ds hd
    have hp : Try.f5.params.toList.length = 2 := by kernel_rfl
    rw [hp] at hd
    match ds, hd with
    | [d, d'], _ => rfl
  · intro W base args ds ps hval hA _ _
    have hval' : ∀ (j : Nat) t v, Try.f5.params[j]? = some t → args[j]? = some v → Value.okWide Try.prog W .any base t v := hval
    have hA' : DataW.TrodAll enc Try.prog W 0 (fun _ => true) true Try.f5.params.toList args.toList ds ps := hA
    rw [Try.params5] at hA' hval'
    obtain ⟨v0, v1, d0, d1, p0, p1, rfl, rfl, rfl, h0, h1⟩ := trodAll_two hA'
    obtain ⟨q, cap, L, rfl, hL, hop⟩ := open_op11s (hval' 0 61 v0 rfl rfl) h0
    obtain ⟨o, rfl⟩ := open_op11 h1 (okWide_op11 (hval' 1 35 v1 rfl rfl))
    obtain ⟨pk, pf, pt, pd, pn, praw, psm, hpn⟩ := o
    exact l11back_any q cap L pk pf pt pd pn praw psm hpn W hL (Lib.hid hop)
theorem BankBack_holds : Rows.BankBackSaid :=
  OpenClaim.holds_of_wide 5 Try.f5 rfl rfl rfl rfl rfl rfl rfl ⟨rfl, rfl, rfl, rfl, rfl⟩ rfl rfl rfl rfl rfl (by kernel_rfl) Try.func5 (by kernel_rfl)
    (of_decide_eq_true (by kernel_rfl)) (by unfold Func.isWrapper; first | (rw [if_pos (by decide +kernel)]; kernel_rfl) | (rw [if_neg (by decide +kernel)]; exact ⟨rfl, rfl⟩))
    (fun os started H enc _ => l11back_lifted os started H enc)
end Go.Proofs.Ytiaflghhfcnjlaa

/- The tables as the words say are those that the layers above take. -/
import Derived.Test.YtidceockbjeaoaaDoorM5
namespace Go.Proofs.YtidceockbjeaoaaDoor
open Go.RowKit
attribute [local go_sem ↓] Go.wp_at_zero Go.wp_at_succ
def PR : List Nat := [2, 3, 5, 7, 11, 13, 17, 19, 23, 29, 31, 37, 41, 43, 47, 53, 59, 61, 67, 71, 73, 79, 83, 89, 97, 101, 103, 107, 109, 113, 127, 131, 137, 139, 149, 151, 157, 163, 167, 173, 179, 181, 191, 193, 197, 199, 211, 223, 227, 229, 233, 239, 241, 251, 257, 263, 269, 271, 277, 281, 283, 293, 307, 311]
set_option maxRecDepth 100000 in
theorem prs_PR : prs 310 = PR := by decide +kernel
set_option maxRecDepth 100000 in
theorem BG_roots : (PR.take 8).map (fun p => ((rootN p false : Nat) : Int)) = BG := by decide +kernel
set_option maxRecDepth 100000 in
theorem KK_roots : PR.map (fun p => ((rootN p true : Nat) : Int)) = KK := by decide +kernel
theorem BG_at {k : Nat} (h : k < 8) : ((rootN (PR.getD k 0) false : Nat) : Int) = BG.getD k 0 := by
  rw [← BG_roots, List.getD_eq_getElem?_getD, List.getD_eq_getElem?_getD, List.getElem?_map, List.getElem?_take, if_pos h, List.getElem?_eq_getElem (show k < PR.length from Nat.lt_of_lt_of_le h (by decide))]
  rfl
theorem KK_at {k : Nat} (h : k < 64) : ((rootN (PR.getD k 0) true : Nat) : Int) = KK.getD k 0 := by
  rw [← KK_roots, List.getD_eq_getElem?_getD, List.getD_eq_getElem?_getD, List.getElem?_map, List.getElem?_eq_getElem (show k < PR.length from h)]
  rfl
theorem PR_lt : ∀ k, PR.getD k 0 < 65536 := by
  intro k
  rcases Nat.lt_or_ge k 64 with h | h
  · have h1 : ∀ k : Fin 64, PR.getD k.1 0 < 65536 := by decide
    exact h1 ⟨k, h⟩
  · rw [List.getD_eq_getElem?_getD, List.getElem?_eq_none h]; decide
theorem wp_push2 {P : Program} {o : Oper} {a : Act} {K : Act → World → Prop} {Q : Exit → Act → World → Prop} {w : World} (s x : Operand) (t : TypeId)
    (ho : o.op = .call { callee := .builtin .append, args := #[s, x], argTypes := #[t, t] })
    (base : Nat) (e : TypeId) (i : TypeInfo) (z : Value) (bytes : Nat) (ht : P.underlying t = some (.slice e)) (hi : P.info? e = some i) (hz : i.zero = some z)
    (hsize : i.size = 1) (hby : i.bytes = bytes) (hzs : z.cells.size = 1)
    (v : Value) (n : Nat) (xs : List Value) (hs : a.eval s = v) (hown : own2 w base e v n xs)
    (u : Value) (b : Nat) (hx : a.eval x = .slice (some ⟨b, 0, none⟩) 1 1) (hb : b = w.heap.size) (h1 : u.oneCell' = true)
    (h63 : n + 1 ≤ maxLen) (hbytes : (n + 1) * bytes ≤ 140737488355328) (hbase : base ≤ w.heap.size)
    (h : ∀ v' w', own2 w' base e v' (n + 1) (xs ++ [u]) → w.grownBy w' v.ownBlock → (v'.ownBlock = v.ownBlock ∨ ∃ g, v'.ownBlock = some g ∧ w.heap.size ≤ g) → K (a.put o.dst v') w') :
    o.wp P a (w.alloc (.cells #[u] e)) K Q := by
  subst hb
  have hnews : ∀ j u', ([u] : List Value)[j]? = some u' → (w.alloc (.cells #[u] e)).cell? ((⟨w.heap.size, 0, none⟩ : Addr).add j) = some u' := fun j u' hu => by
    have e1 : (⟨w.heap.size, 0, none⟩ : Addr).add j = ⟨w.heap.size, j, none⟩ := by unfold Addr.add; split <;> simp_all
    rw [e1, World.cell?_alloc_mark]
    simpa using hu
  have hone : ∀ u' ∈ [u], u'.oneCell' = true := fun u' hu => by simp at hu; rw [hu]; exact h1
  have hga : w.grownBy (w.alloc (.cells #[u] e)) v.ownBlock := World.grownBy_alloc w _ _
  have key : ∃ v' w', (Builtin.append_ #[t, t] o.type #[v, .slice (some ⟨w.heap.size, 0, none⟩) 1 1]).run P (w.alloc (.cells #[u] e)) = .ok v' w' ∧ own2 w' base e v' (n + 1) (xs ++ [u]) ∧ (w.alloc (.cells #[u] e)).grownBy w' v.ownBlock ∧ (v'.ownBlock = v.ownBlock ∨ ∃ g, v'.ownBlock = some g ∧ w.heap.size ≤ g) := by
    rcases hown with ⟨rfl, rfl, rfl⟩ | hown
    · obtain ⟨v', w', r1, r2, r3, _⟩ := run_append_own (P := P) (w.alloc (.cells #[u] e)) w.heap.size t o.type e i z 1 bytes ht hi hz hsize hby hzs (by decide) (.slice none 0 0) 0 [] (World.ownsRow_nil _ _ _ _) ⟨w.heap.size, 0, none⟩ 1 1 [u] rfl hnews hone h63 hbytes (by simp)
      rcases r2.2 with ⟨_, hbad⟩ | ⟨g, cap, cur, rfl, hg, hh, q1, q2, q3, q4⟩
      · cases hbad
      · refine ⟨_, w', r1, .inr ⟨by simp, g, cap, cur, (0, 0), rfl, Nat.le_trans hbase hg, hh, .inl rfl, q1, q2, by rw [q3, Nat.mul_one], by rw [← q4, Nat.mul_one]⟩, r3, .inr ⟨g, rfl, hg⟩⟩
    · have hown1 := hown.kept (BW_alloc (Below.refl _ _) (.cells #[u] e))
      obtain ⟨v', w', hr, h2, h3, h4⟩ := run_append_ownB' (P := P) (w.alloc (.cells #[u] e)) base t o.type e i z bytes ht hi hz hsize hby hzs v n xs hown1 ⟨w.heap.size, 0, none⟩ 1 1 [u] rfl hnews hone h63 hbytes (by simp; omega)
      refine ⟨v', w', hr, .inr h2, h3, ?_⟩
      rcases h4 with h4 | ⟨g, h4, h5⟩
      · exact .inl h4
      · exact .inr ⟨g, h4, by simp at h5; omega⟩
  obtain ⟨v', w', hr, h2, h3, h4⟩ := key
  unfold Oper.wp execOp
  simp only [ho, resolve, invoke, builtin, Sem.run_bind, Sem.run_pure, Result.andThen_ok, List.map_toArray, List.map_cons, List.map_nil, hs, hx, hr]
  exact (h v' w' h2 ⟨h3.os.trans hga.os, h3.tape.trans hga.tape, h3.output.trans hga.output, Nat.le_trans hga.size h3.size, fun k hk hne => (h3.block k (Nat.lt_of_lt_of_le hk hga.size) hne).trans (hga.block k hk hne)⟩ h4)
theorem own2.onB {w w' : World} {base : Nat} {e : TypeId} {v : Value} {n : Nat} {xs : List Value} (h : own2 w base e v n xs) (hb : Below w.heap.size w w') : own2 w' base e v n xs := by
  rcases h with h | h
  · exact .inl h
  · exact .inr (h.kept hb)
theorem infoU32 : (Tryd.prog.info? 46).map (fun i => (i.zero, i.size, i.bytes)) = some (some (.int .u32 0), 1, 4) := by kernel_rfl
/-- What stands as the tables are made. -/
def MS (w0 : World) (gr gp op base : Nat) (w : World) : Prop := (∀ i, i < 64 → w.cell? ⟨gp, op + i, none⟩ = some (.int .u64 ((PR.getD i 0 : Nat) : Int))) ∧ Blk w gr 38 #[.slice none 0 0, .slice none 0 0] ∧ Below w0.heap.size w0 w ∧ gp < base ∧ gr < base
theorem MS.keep {w0 : World} {gr gp op base : Nat} {w w' : World} (h : MS w0 gr gp op base w) (hb : Below base w w') (h0 : w0.heap.size ≤ base) : MS w0 gr gp op base w' := by
  obtain ⟨h1, h2, h3, h4, h5⟩ := h
  refine ⟨fun i hi => ?_, (hb.block gr h5).trans h2, h3.trans (hb.mono h0), h4, h5⟩
  have h6 := h1 i hi
  unfold World.cell? at h6 ⊢
  rw [hb.block gp h4]
  exact h6
theorem MS.set {w0 : World} {gr gp op base gt : Nat} {w : World} (h : MS w0 gr gp op base w) (hgt : w0.heap.size ≤ gt) (hne : gr ≠ gt) (hnp : gp ≠ gt) (i : Nat) (u : Value) : MS w0 gr gp op base (w.setCell ⟨gt, i, none⟩ u) := by
  obtain ⟨h1, h2, h3, h4, h5⟩ := h
  exact ⟨fun j hj => by rw [World.cell?_setCell_far _ _ _ _ (Ne.symm hnp)]; exact h1 j hj, h2.far (p := ⟨gt, i, none⟩) hne u, h3.setCell hgt u, h4, h5⟩
theorem U32_take_succ (L : List Int) (k : Nat) (h : k < L.length) : U32 (L.take (k + 1)) = U32 (L.take k) ++ [.int .u32 (L.getD k 0)] := by
  rw [List.take_succ_eq_append_getElem h, U32, List.map_append, List.getD_eq_getElem?_getD, List.getElem?_eq_getElem h]
  rfl
theorem own2.setFar {w : World} {base gt : Nat} {e : TypeId} {v : Value} {n : Nat} {xs : List Value} (h : own2 w base e v n xs) (hg : gt < base) (i : Nat) (u : Value) : own2 (w.setCell ⟨gt, i, none⟩ u) base e v n xs :=
  h.grown (grown_set (World.grownBy.refl w (some gt)) i u) (.inr (own2.old h hg).symm)
set_option maxHeartbeats 4000000 in
set_option maxRecDepth 100000 in
theorem rmade_fresh (w : World) : Calls Tryd.prog 22 #[] w fun e w' => ∃ gB gK cB cK, e = .returned (.agg #[.slice (some ⟨gB, 0, none⟩) 8 cB, .slice (some ⟨gK, 0, none⟩) 64 cK]) ∧ (∀ i, i < 8 → w'.cell? ⟨gB, i, none⟩ = some (.int .u32 (BG.getD i 0))) ∧ (∀ i, i < 64 → w'.cell? ⟨gK, i, none⟩ = some (.int .u32 (KK.getD i 0))) ∧ Below w.heap.size w w' ∧ w.heap.size ≤ gB ∧ w.heap.size ≤ gK := by
  obtain ⟨i0, hi0, iz0, iz1, iz2⟩ := info_parts infoU32
  go_enter Tryd.func22, Tryd.ntmps22
  have kr := (blk1 w 38 #[.slice none 0 0, .slice none 0 0]).alloc (.cells #[.slice none 0 0, .slice none 0 0] 38)
  have kt := blk1 (w.alloc (.cells #[.slice none 0 0, .slice none 0 0] 38)) 38 #[.slice none 0 0, .slice none 0 0]
  have hb := BW_alloc (BW_alloc (BW_refl w) (.cells #[.slice none 0 0, .slice none 0 0] 38)) (.cells #[.slice none 0 0, .slice none 0 0] 38)
  have hg : (w.alloc (.cells #[.slice none 0 0, .slice none 0 0] 38)).heap.size = w.heap.size + 1 := by simp
  rw [hg] at kt
  go_upto_region 2 with (fail)
  change Code.wp _ _ _ _ ((w.alloc (.cells #[.slice none 0 0, .slice none 0 0] 38)).alloc (.cells #[.slice none 0 0, .slice none 0 0] 38))
  generalize (w.alloc (.cells #[.slice none 0 0, .slice none 0 0] 38)).alloc (.cells #[.slice none 0 0, .slice none 0 0] 38) = W at *
  generalize hgt : w.heap.size + 1 = gt at *
  have hgt0 : Hid (w.heap.size ≤ gt) := Lib.hid (by omega)
  have hgrt : Hid (w.heap.size ≠ gt) := Lib.hid (by omega)
  clear hg hgt
  go_wp2_with fail
  refine (rprimes_any _).mono ?_
  rintro e w1 ⟨vp, rfl, hrp, hb1⟩
  obtain ⟨pp, cp, rfl, hf⟩ := hrp
  rw [prs_PR] at hf
  rw [show (prs 310).length = 64 from prs_310]
  obtain ⟨gp, op, rfl, hc⟩ := hf (by decide)
  have kr1 := kr.on hb1
  have kt1 := kt.on hb1
  have hpt : Hid (gp ≠ gt) := Lib.hid (fun e => by
    have h1 := hc 0 (by decide)
    rw [e] at h1
    rw [kt1.cell] at h1
    have : op + 0 = 0 ∨ op + 0 = 1 ∨ 2 ≤ op + 0 := by omega
    rcases this with h2 | h2 | h2
    · rw [h2] at h1; simp at h1
    · rw [h2] at h1; simp at h1
    · rw [Array.getElem?_eq_none (by simpa using h2)] at h1; cases h1)
  have hgpt := hpt
  have hS : MS w w.heap.size gp op w1.heap.size w1 := ⟨fun i hi => hc i hi, kr1, BW_on hb hb1, World.block_lt_of_cell? _ _ (hc 0 (by decide)), kr1.lt⟩
  have hgtb : Hid (gt < w1.heap.size) := Lib.hid kt1.lt
  have hwb : Hid (w.heap.size ≤ w1.heap.size) := Lib.hid hS.2.2.1.size
  have hbs0 : w1.heap.size ≤ w1.heap.size := Nat.le_refl _
  clear hf hc kr kt hb hb1 kr1 hpt
  generalize hbase : w1.heap.size = base at *
  go_wp2_with fail
  go_loopw [3] (fun i wi => ∃ (k : Nat) (vB : Value), k ≤ 8 ∧ i = .int .i64 (k : Int) ∧ Blk wi gt 38 #[vB, .slice none 0 0] ∧ own2 wi base 46 vB k (U32 (BG.take k)) ∧ MS w w.heap.size gp op base wi ∧ base ≤ wi.heap.size) (fun i _ => 8 - (intOf i).toNat)
  case atStart => exact ⟨0, .slice none 0 0, by omega, rfl, kt1, own2.nil _ _ _, hS, by rw [hbase]; exact hbs0⟩
  case round =>
  clear kt1 hS hbs0
  obtain ⟨k, vB, hk, rfl, f1, f2, hS, hbs⟩ := hrel
  by_cases hk0 : k < 8
  · have hk1 : (k : Int) < 8 := by omega
    have hk64 : k < 64 := by omega
    have hk2 : (k : Int) < 64 := by omega
    have hXk := Lib.hid (BG_at hk0)
    have hTk : Hid (U32 (BG.take (k + 1)) = U32 (BG.take k) ++ [.int .u32 (BG.getD k 0)]) := Lib.hid (U32_take_succ BG k hk0)
    generalize BG.getD k 0 = X at *
    go_wp2_with fail
    replace f1 := f1.drew
    replace f2 := f2.onB (Below.refl _ _).drew
    replace hbs : base ≤ wr.drew.heap.size := hbs
    refine wp_region_held_drew (S := MS w w.heap.size gp op base) (by kernel_rfl) (hS.keep (Below.refl _ _).drew hwb.out) (fun hH0 => ?_)
    refine wpAnyH_take (i := 0) (v := .pointer (some ⟨gt, 0, none⟩)) rfl (by kernel_rfl) (by kernel_rfl) (by kernel_rfl) (fun _ _ _ h => h) (Or.inl ⟨by rfl, by intro w9 hS9; go_simp⟩) hH0 ?_
    refine wpAnyH_take (i := 2) (v := .slice (some ⟨gp, op, none⟩) 64 cp) rfl (by kernel_rfl) (by kernel_rfl) (by kernel_rfl) (fun _ _ _ h => h) (yk_move (by kernel_rfl) _ rfl _ (by kernel_rfl)) hH0 ?_
    refine wpAnyH_take (i := 3) (v := .int .i64 (k : Int)) rfl (by kernel_rfl) (by kernel_rfl) (by kernel_rfl) (fun _ _ _ h => h) (yk_move (by kernel_rfl) _ rfl _ (by kernel_rfl)) hH0 ?_
    refine wpAnyH_take (i := 4) (v := .pointer (some ⟨gp, op + k, none⟩)) rfl (by kernel_rfl) (by kernel_rfl) (by kernel_rfl) (fun _ _ _ h => h) (Or.inl ⟨by rfl, by intro w9 hS9; go_simp⟩) hH0 ?_
    refine wpAnyH_take (i := 5) (v := .int .u64 ((PR.getD k 0 : Nat) : Int)) rfl (by kernel_rfl) (by kernel_rfl) (by kernel_rfl) (fun _ _ _ h => h) (Or.inl ⟨by rfl, by intro w9 hS9; have hc := hS9.1 k (by omega); go_simp⟩) hH0 ?_
    refine wpAnyH_ready (rs := [1, 6]) (by kernel_rfl) (by simp) ?_
    refine AllReadyH.cons rfl (fun K hK => ?_) (AllReadyH.cons rfl (fun K hK => ?_) (AllReadyH.nil))
    · have cB := f1.cell 0
      go_simp
      refine hK.out _ _ (hH0) (fun hH1 => ?_)
      clear hK K
      refine wpAnyH_ready (rs := [6]) (by kernel_rfl) (by simp) ?_
      refine AllReadyH.cons rfl (fun K hK => ?_) AllReadyH.nil
      go_simp
      go_at_call 39
      refine (rroot_false (PR.getD k 0) _ (PR_lt k)).mono ?_
      rintro e w6 ⟨rfl, hd6⟩
      rw [hXk.out]
      go_wp2_with fail
      refine hK.out _ _ (MS.keep hH1 (hd6.mono hbs) hwb.out) (fun hH2 => ?_)
      clear hK K
      replace f1 := f1.on hd6
      replace f2 := f2.onB hd6
      replace hbs := Nat.le_trans hbs hd6.size
      have hS6 := hH2
      refine wpAnyH_ready (rs := [7]) (by kernel_rfl) (by simp) ?_
      refine AllReadyH.cons rfl (fun K hK => ?_) AllReadyH.nil
      go_simp
      refine hK.out _ _ (MS.keep hH2 (Below.alloc (Below.refl base w6) hbs _) hwb.out) (fun hH3 => ?_)
      clear hK K
      have f1x := f1.alloc (.cells #[.int .u32 X] 46)
      refine wpAnyH_ready (rs := [8]) (by kernel_rfl) (by simp) ?_
      refine AllReadyH.cons rfl (fun K hK => ?_) AllReadyH.nil
      rw [if_pos (by kernel_rfl)]
      refine @wp_push2 Tryd.prog _ _ _ _ w6 _ _ 36 rfl base 46 i0 (.int .u32 0) 4 Tryd.underlying36 hi0 iz0 iz1 iz2 rfl vB k (U32 (BG.take k)) ?q1 f2 (.int .u32 X) w6.heap.size ?q2 rfl rfl ?q3 ?q4 ?q5 ?_
      case q1 => kernel_rfl
      case q2 => kernel_rfl
      case q3 => unfold maxLen; omega
      case q4 => omega
      case q5 => omega
      intro v8 w8 ha8 hg8 hn8
      have hb8 : Below base w6 w8 := (Below.refl base w6).grown hg8 hbs (own2.le f2)
      replace f1 := f1.grownA hg8 (own2.old f2 hgtb.out)
      rw [← hTk.out] at ha8
      clear f1x
      obtain ⟨g8, c8, rfl, _⟩ := (ha8.form (Nat.succ_pos _)).form
      simp only [Act.put]
      refine hK.out _ _ (MS.keep hS6 hb8 hwb.out) (fun hH4 => ?_)
      clear hK K
      refine wpAnyH_take (i := 9) (v := .pointer (some ⟨gt, 0, none⟩)) rfl (by kernel_rfl) (by kernel_rfl) (by kernel_rfl) (fun _ _ _ h => h) (Or.inl ⟨by rfl, by intro w9 hS9; go_simp⟩) hH4 ?_
      have cS := f1.cell 0
      have fS := f1.free 0
      refine wpAnyH_ready (rs := [10]) (by kernel_rfl) (by simp) ?_
      refine AllReadyH.cons rfl (fun K hK => ?_) AllReadyH.nil
      go_simp
      refine hK.out _ _ (MS.set hH4 hgt0.out hgrt.out hgpt.out 0 _) (fun hH5 => ?_)
      clear hK K
      refine wpAnyH_done (by kernel_rfl) ?_ _
      have f1f := f1.set_ 0 (.slice (some ⟨g8, 0, none⟩) (k + 1) c8)
      have ha9 := ha8.setFar (gt := gt) hgtb.out 0 (.slice (some ⟨g8, 0, none⟩) (k + 1) c8)
      have hSf := hH5
      go_wp2_with fail
      go_roundw
      case rel =>
        exact ⟨k + 1, _, by omega, by go_num, f1f, ha9, hSf, Nat.le_trans (Nat.le_trans hbs hb8.size) ((Below.refl 0 w8).setCell (Nat.zero_le _) _).size⟩
      case measure => simp [intOf]; omega
    · go_simp
      go_at_call 39
      refine (rroot_false (PR.getD k 0) _ (PR_lt k)).mono ?_
      rintro e w6 ⟨rfl, hd6⟩
      rw [hXk.out]
      go_wp2_with fail
      refine hK.out _ _ (MS.keep hH0 (hd6.mono hbs) hwb.out) (fun hH1 => ?_)
      clear hK K
      replace f1 := f1.on hd6
      replace f2 := f2.onB hd6
      replace hbs := Nat.le_trans hbs hd6.size
      have hS6 := hH1
      refine wpAnyH_ready (rs := [1, 7]) (by kernel_rfl) (by simp) ?_
      refine AllReadyH.cons rfl (fun K hK => ?_) (AllReadyH.cons rfl (fun K hK => ?_) (AllReadyH.nil))
      · have cB := f1.cell 0
        go_simp
        refine hK.out _ _ (hH1) (fun hH2 => ?_)
        clear hK K
        refine wpAnyH_ready (rs := [7]) (by kernel_rfl) (by simp) ?_
        refine AllReadyH.cons rfl (fun K hK => ?_) AllReadyH.nil
        go_simp
        refine hK.out _ _ (MS.keep hH2 (Below.alloc (Below.refl base w6) hbs _) hwb.out) (fun hH3 => ?_)
        clear hK K
        have f1x := f1.alloc (.cells #[.int .u32 X] 46)
        refine wpAnyH_ready (rs := [8]) (by kernel_rfl) (by simp) ?_
        refine AllReadyH.cons rfl (fun K hK => ?_) AllReadyH.nil
        rw [if_pos (by kernel_rfl)]
        refine @wp_push2 Tryd.prog _ _ _ _ w6 _ _ 36 rfl base 46 i0 (.int .u32 0) 4 Tryd.underlying36 hi0 iz0 iz1 iz2 rfl vB k (U32 (BG.take k)) ?q1 f2 (.int .u32 X) w6.heap.size ?q2 rfl rfl ?q3 ?q4 ?q5 ?_
        case q1 => kernel_rfl
        case q2 => kernel_rfl
        case q3 => unfold maxLen; omega
        case q4 => omega
        case q5 => omega
        intro v8 w8 ha8 hg8 hn8
        have hb8 : Below base w6 w8 := (Below.refl base w6).grown hg8 hbs (own2.le f2)
        replace f1 := f1.grownA hg8 (own2.old f2 hgtb.out)
        rw [← hTk.out] at ha8
        clear f1x
        obtain ⟨g8, c8, rfl, _⟩ := (ha8.form (Nat.succ_pos _)).form
        simp only [Act.put]
        refine hK.out _ _ (MS.keep hS6 hb8 hwb.out) (fun hH4 => ?_)
        clear hK K
        refine wpAnyH_take (i := 9) (v := .pointer (some ⟨gt, 0, none⟩)) rfl (by kernel_rfl) (by kernel_rfl) (by kernel_rfl) (fun _ _ _ h => h) (Or.inl ⟨by rfl, by intro w9 hS9; go_simp⟩) hH4 ?_
        have cS := f1.cell 0
        have fS := f1.free 0
        refine wpAnyH_ready (rs := [10]) (by kernel_rfl) (by simp) ?_
        refine AllReadyH.cons rfl (fun K hK => ?_) AllReadyH.nil
        go_simp
        refine hK.out _ _ (MS.set hH4 hgt0.out hgrt.out hgpt.out 0 _) (fun hH5 => ?_)
        clear hK K
        refine wpAnyH_done (by kernel_rfl) ?_ _
        have f1f := f1.set_ 0 (.slice (some ⟨g8, 0, none⟩) (k + 1) c8)
        have ha9 := ha8.setFar (gt := gt) hgtb.out 0 (.slice (some ⟨g8, 0, none⟩) (k + 1) c8)
        have hSf := hH5
        go_wp2_with fail
        go_roundw
        case rel =>
          exact ⟨k + 1, _, by omega, by go_num, f1f, ha9, hSf, Nat.le_trans (Nat.le_trans hbs hb8.size) ((Below.refl 0 w8).setCell (Nat.zero_le _) _).size⟩
        case measure => simp [intOf]; omega
      · go_simp
        refine hK.out _ _ (MS.keep hH1 (Below.alloc (Below.refl base w6) hbs _) hwb.out) (fun hH2 => ?_)
        clear hK K
        have f1x := f1.alloc (.cells #[.int .u32 X] 46)
        have cB := f1x.cell 0
        refine wpAnyH_ready (rs := [1]) (by kernel_rfl) (by simp) ?_
        refine AllReadyH.cons rfl (fun K hK => ?_) AllReadyH.nil
        go_simp
        refine hK.out _ _ (hH2) (fun hH3 => ?_)
        clear hK K
        refine wpAnyH_ready (rs := [8]) (by kernel_rfl) (by simp) ?_
        refine AllReadyH.cons rfl (fun K hK => ?_) AllReadyH.nil
        rw [if_pos (by kernel_rfl)]
        refine @wp_push2 Tryd.prog _ _ _ _ w6 _ _ 36 rfl base 46 i0 (.int .u32 0) 4 Tryd.underlying36 hi0 iz0 iz1 iz2 rfl vB k (U32 (BG.take k)) ?q1 f2 (.int .u32 X) w6.heap.size ?q2 rfl rfl ?q3 ?q4 ?q5 ?_
        case q1 => kernel_rfl
        case q2 => kernel_rfl
        case q3 => unfold maxLen; omega
        case q4 => omega
        case q5 => omega
        intro v8 w8 ha8 hg8 hn8
        have hb8 : Below base w6 w8 := (Below.refl base w6).grown hg8 hbs (own2.le f2)
        replace f1 := f1.grownA hg8 (own2.old f2 hgtb.out)
        rw [← hTk.out] at ha8
        clear f1x
        obtain ⟨g8, c8, rfl, _⟩ := (ha8.form (Nat.succ_pos _)).form
        simp only [Act.put]
        refine hK.out _ _ (MS.keep hS6 hb8 hwb.out) (fun hH4 => ?_)
        clear hK K
        refine wpAnyH_take (i := 9) (v := .pointer (some ⟨gt, 0, none⟩)) rfl (by kernel_rfl) (by kernel_rfl) (by kernel_rfl) (fun _ _ _ h => h) (Or.inl ⟨by rfl, by intro w9 hS9; go_simp⟩) hH4 ?_
        have cS := f1.cell 0
        have fS := f1.free 0
        refine wpAnyH_ready (rs := [10]) (by kernel_rfl) (by simp) ?_
        refine AllReadyH.cons rfl (fun K hK => ?_) AllReadyH.nil
        go_simp
        refine hK.out _ _ (MS.set hH4 hgt0.out hgrt.out hgpt.out 0 _) (fun hH5 => ?_)
        clear hK K
        refine wpAnyH_done (by kernel_rfl) ?_ _
        have f1f := f1.set_ 0 (.slice (some ⟨g8, 0, none⟩) (k + 1) c8)
        have ha9 := ha8.setFar (gt := gt) hgtb.out 0 (.slice (some ⟨g8, 0, none⟩) (k + 1) c8)
        have hSf := hH5
        go_wp2_with fail
        go_roundw
        case rel =>
          exact ⟨k + 1, _, by omega, by go_num, f1f, ha9, hSf, Nat.le_trans (Nat.le_trans hbs hb8.size) ((Below.refl 0 w8).setCell (Nat.zero_le _) _).size⟩
        case measure => simp [intOf]; omega
  · obtain rfl : k = 8 := by omega
    clear hk0 hk
    have hdj0 : Dj vB (.slice none 0 0) := fun g h1 h2 => by cases h2
    go_wp2_with fail
    go_loopw [4] (fun i wi => ∃ (k : Nat) (vK : Value), k ≤ 64 ∧ i = .int .i64 (k : Int) ∧ Blk wi gt 38 #[vB, vK] ∧ own2 wi base 46 vB 8 (U32 (BG.take 8)) ∧ own2 wi base 46 vK k (U32 (KK.take k)) ∧ Dj vB vK ∧ MS w w.heap.size gp op base wi ∧ base ≤ wi.heap.size) (fun i _ => 64 - (intOf i).toNat)
    case atStart => exact ⟨0, .slice none 0 0, by omega, rfl, f1, f2, own2.nil _ _ _, hdj0, hS, hbs⟩
    case round =>
    clear f1 f2 hdj0 hS hbs
    obtain ⟨k, vK, hk, rfl, f1, f3, f2, hdj, hS, hbs⟩ := hrel
    by_cases hk0 : k < 64
    · have hk1 : (k : Int) < 64 := by omega
      have hXk := Lib.hid (KK_at hk0)
      have hTk : Hid (U32 (KK.take (k + 1)) = U32 (KK.take k) ++ [.int .u32 (KK.getD k 0)]) := Lib.hid (U32_take_succ KK k hk0)
      generalize KK.getD k 0 = X at *
      go_wp2_with fail
      replace f1 := f1.drew
      replace f2 := f2.onB (Below.refl _ _).drew
      replace f3 := f3.onB (Below.refl _ _).drew
      replace hbs : base ≤ wr.drew.heap.size := hbs
      refine wp_region_held_drew (S := MS w w.heap.size gp op base) (by kernel_rfl) (hS.keep (Below.refl _ _).drew hwb.out) (fun hH0 => ?_)
      refine wpAnyH_take (i := 0) (v := .pointer (some ⟨gt, 1, none⟩)) rfl (by kernel_rfl) (by kernel_rfl) (by kernel_rfl) (fun _ _ _ h => h) (Or.inl ⟨by rfl, by intro w9 hS9; go_simp⟩) hH0 ?_
      refine wpAnyH_take (i := 2) (v := .slice (some ⟨gp, op, none⟩) 64 cp) rfl (by kernel_rfl) (by kernel_rfl) (by kernel_rfl) (fun _ _ _ h => h) (yk_move (by kernel_rfl) _ rfl _ (by kernel_rfl)) hH0 ?_
      refine wpAnyH_take (i := 3) (v := .int .i64 (k : Int)) rfl (by kernel_rfl) (by kernel_rfl) (by kernel_rfl) (fun _ _ _ h => h) (yk_move (by kernel_rfl) _ rfl _ (by kernel_rfl)) hH0 ?_
      refine wpAnyH_take (i := 4) (v := .pointer (some ⟨gp, op + k, none⟩)) rfl (by kernel_rfl) (by kernel_rfl) (by kernel_rfl) (fun _ _ _ h => h) (Or.inl ⟨by rfl, by intro w9 hS9; go_simp⟩) hH0 ?_
      refine wpAnyH_take (i := 5) (v := .int .u64 ((PR.getD k 0 : Nat) : Int)) rfl (by kernel_rfl) (by kernel_rfl) (by kernel_rfl) (fun _ _ _ h => h) (Or.inl ⟨by rfl, by intro w9 hS9; have hc := hS9.1 k (by omega); go_simp⟩) hH0 ?_
      refine wpAnyH_ready (rs := [1, 6]) (by kernel_rfl) (by simp) ?_
      refine AllReadyH.cons rfl (fun K hK => ?_) (AllReadyH.cons rfl (fun K hK => ?_) (AllReadyH.nil))
      · have cB := f1.cell 1
        go_simp
        refine hK.out _ _ (hH0) (fun hH1 => ?_)
        clear hK K
        refine wpAnyH_ready (rs := [6]) (by kernel_rfl) (by simp) ?_
        refine AllReadyH.cons rfl (fun K hK => ?_) AllReadyH.nil
        go_simp
        go_at_call 39
        refine (rroot_true (PR.getD k 0) _ (PR_lt k)).mono ?_
        rintro e w6 ⟨rfl, hd6⟩
        rw [hXk.out]
        go_wp2_with fail
        refine hK.out _ _ (MS.keep hH1 (hd6.mono hbs) hwb.out) (fun hH2 => ?_)
        clear hK K
        replace f1 := f1.on hd6
        replace f2 := f2.onB hd6
        replace hbs := Nat.le_trans hbs hd6.size
        replace f3 := f3.onB hd6
        have hS6 := hH2
        refine wpAnyH_ready (rs := [7]) (by kernel_rfl) (by simp) ?_
        refine AllReadyH.cons rfl (fun K hK => ?_) AllReadyH.nil
        go_simp
        refine hK.out _ _ (MS.keep hH2 (Below.alloc (Below.refl base w6) hbs _) hwb.out) (fun hH3 => ?_)
        clear hK K
        have f1x := f1.alloc (.cells #[.int .u32 X] 46)
        refine wpAnyH_ready (rs := [8]) (by kernel_rfl) (by simp) ?_
        refine AllReadyH.cons rfl (fun K hK => ?_) AllReadyH.nil
        rw [if_pos (by kernel_rfl)]
        refine @wp_push2 Tryd.prog _ _ _ _ w6 _ _ 36 rfl base 46 i0 (.int .u32 0) 4 Tryd.underlying36 hi0 iz0 iz1 iz2 rfl vK k (U32 (KK.take k)) ?q1 f2 (.int .u32 X) w6.heap.size ?q2 rfl rfl ?q3 ?q4 ?q5 ?_
        case q1 => kernel_rfl
        case q2 => kernel_rfl
        case q3 => unfold maxLen; omega
        case q4 => omega
        case q5 => omega
        intro v8 w8 ha8 hg8 hn8
        have hb8 : Below base w6 w8 := (Below.refl base w6).grown hg8 hbs (own2.le f2)
        replace f1 := f1.grownA hg8 (own2.old f2 hgtb.out)
        have hdj8 := own2.dj hn8 f3 hdj.symm
        replace f3 := f3.grown' hg8 hdj.symm
        rw [← hTk.out] at ha8
        clear f1x
        obtain ⟨g8, c8, rfl, _⟩ := (ha8.form (Nat.succ_pos _)).form
        simp only [Act.put]
        refine hK.out _ _ (MS.keep hS6 hb8 hwb.out) (fun hH4 => ?_)
        clear hK K
        refine wpAnyH_take (i := 9) (v := .pointer (some ⟨gt, 1, none⟩)) rfl (by kernel_rfl) (by kernel_rfl) (by kernel_rfl) (fun _ _ _ h => h) (Or.inl ⟨by rfl, by intro w9 hS9; go_simp⟩) hH4 ?_
        have cS := f1.cell 1
        have fS := f1.free 1
        refine wpAnyH_ready (rs := [10]) (by kernel_rfl) (by simp) ?_
        refine AllReadyH.cons rfl (fun K hK => ?_) AllReadyH.nil
        go_simp
        refine hK.out _ _ (MS.set hH4 hgt0.out hgrt.out hgpt.out 1 _) (fun hH5 => ?_)
        clear hK K
        refine wpAnyH_done (by kernel_rfl) ?_ _
        have f1f := f1.set_ 1 (.slice (some ⟨g8, 0, none⟩) (k + 1) c8)
        have ha9 := ha8.setFar (gt := gt) hgtb.out 1 (.slice (some ⟨g8, 0, none⟩) (k + 1) c8)
        have f39 := f3.setFar (gt := gt) hgtb.out 1 (.slice (some ⟨g8, 0, none⟩) (k + 1) c8)
        have hSf := hH5
        go_wp2_with fail
        go_roundw
        case rel =>
          (repeat apply Exists.intro)
          exact ⟨⟨k + 1, _, by omega, by go_num, f1f, f39, ha9, hdj8.symm, hSf, Nat.le_trans (Nat.le_trans hbs hb8.size) ((Below.refl 0 w8).setCell (Nat.zero_le _) _).size⟩, rfl⟩
        case measure => simp [intOf]; omega
      · go_simp
        go_at_call 39
        refine (rroot_true (PR.getD k 0) _ (PR_lt k)).mono ?_
        rintro e w6 ⟨rfl, hd6⟩
        rw [hXk.out]
        go_wp2_with fail
        refine hK.out _ _ (MS.keep hH0 (hd6.mono hbs) hwb.out) (fun hH1 => ?_)
        clear hK K
        replace f1 := f1.on hd6
        replace f2 := f2.onB hd6
        replace hbs := Nat.le_trans hbs hd6.size
        replace f3 := f3.onB hd6
        have hS6 := hH1
        refine wpAnyH_ready (rs := [1, 7]) (by kernel_rfl) (by simp) ?_
        refine AllReadyH.cons rfl (fun K hK => ?_) (AllReadyH.cons rfl (fun K hK => ?_) (AllReadyH.nil))
        · have cB := f1.cell 1
          go_simp
          refine hK.out _ _ (hH1) (fun hH2 => ?_)
          clear hK K
          refine wpAnyH_ready (rs := [7]) (by kernel_rfl) (by simp) ?_
          refine AllReadyH.cons rfl (fun K hK => ?_) AllReadyH.nil
          go_simp
          refine hK.out _ _ (MS.keep hH2 (Below.alloc (Below.refl base w6) hbs _) hwb.out) (fun hH3 => ?_)
          clear hK K
          have f1x := f1.alloc (.cells #[.int .u32 X] 46)
          refine wpAnyH_ready (rs := [8]) (by kernel_rfl) (by simp) ?_
          refine AllReadyH.cons rfl (fun K hK => ?_) AllReadyH.nil
          rw [if_pos (by kernel_rfl)]
          refine @wp_push2 Tryd.prog _ _ _ _ w6 _ _ 36 rfl base 46 i0 (.int .u32 0) 4 Tryd.underlying36 hi0 iz0 iz1 iz2 rfl vK k (U32 (KK.take k)) ?q1 f2 (.int .u32 X) w6.heap.size ?q2 rfl rfl ?q3 ?q4 ?q5 ?_
          case q1 => kernel_rfl
          case q2 => kernel_rfl
          case q3 => unfold maxLen; omega
          case q4 => omega
          case q5 => omega
          intro v8 w8 ha8 hg8 hn8
          have hb8 : Below base w6 w8 := (Below.refl base w6).grown hg8 hbs (own2.le f2)
          replace f1 := f1.grownA hg8 (own2.old f2 hgtb.out)
          have hdj8 := own2.dj hn8 f3 hdj.symm
          replace f3 := f3.grown' hg8 hdj.symm
          rw [← hTk.out] at ha8
          clear f1x
          obtain ⟨g8, c8, rfl, _⟩ := (ha8.form (Nat.succ_pos _)).form
          simp only [Act.put]
          refine hK.out _ _ (MS.keep hS6 hb8 hwb.out) (fun hH4 => ?_)
          clear hK K
          refine wpAnyH_take (i := 9) (v := .pointer (some ⟨gt, 1, none⟩)) rfl (by kernel_rfl) (by kernel_rfl) (by kernel_rfl) (fun _ _ _ h => h) (Or.inl ⟨by rfl, by intro w9 hS9; go_simp⟩) hH4 ?_
          have cS := f1.cell 1
          have fS := f1.free 1
          refine wpAnyH_ready (rs := [10]) (by kernel_rfl) (by simp) ?_
          refine AllReadyH.cons rfl (fun K hK => ?_) AllReadyH.nil
          go_simp
          refine hK.out _ _ (MS.set hH4 hgt0.out hgrt.out hgpt.out 1 _) (fun hH5 => ?_)
          clear hK K
          refine wpAnyH_done (by kernel_rfl) ?_ _
          have f1f := f1.set_ 1 (.slice (some ⟨g8, 0, none⟩) (k + 1) c8)
          have ha9 := ha8.setFar (gt := gt) hgtb.out 1 (.slice (some ⟨g8, 0, none⟩) (k + 1) c8)
          have f39 := f3.setFar (gt := gt) hgtb.out 1 (.slice (some ⟨g8, 0, none⟩) (k + 1) c8)
          have hSf := hH5
          go_wp2_with fail
          go_roundw
          case rel =>
            (repeat apply Exists.intro)
            exact ⟨⟨k + 1, _, by omega, by go_num, f1f, f39, ha9, hdj8.symm, hSf, Nat.le_trans (Nat.le_trans hbs hb8.size) ((Below.refl 0 w8).setCell (Nat.zero_le _) _).size⟩, rfl⟩
          case measure => simp [intOf]; omega
        · go_simp
          refine hK.out _ _ (MS.keep hH1 (Below.alloc (Below.refl base w6) hbs _) hwb.out) (fun hH2 => ?_)
          clear hK K
          have f1x := f1.alloc (.cells #[.int .u32 X] 46)
          have cB := f1x.cell 1
          refine wpAnyH_ready (rs := [1]) (by kernel_rfl) (by simp) ?_
          refine AllReadyH.cons rfl (fun K hK => ?_) AllReadyH.nil
          go_simp
          refine hK.out _ _ (hH2) (fun hH3 => ?_)
          clear hK K
          refine wpAnyH_ready (rs := [8]) (by kernel_rfl) (by simp) ?_
          refine AllReadyH.cons rfl (fun K hK => ?_) AllReadyH.nil
          rw [if_pos (by kernel_rfl)]
          refine @wp_push2 Tryd.prog _ _ _ _ w6 _ _ 36 rfl base 46 i0 (.int .u32 0) 4 Tryd.underlying36 hi0 iz0 iz1 iz2 rfl vK k (U32 (KK.take k)) ?q1 f2 (.int .u32 X) w6.heap.size ?q2 rfl rfl ?q3 ?q4 ?q5 ?_
          case q1 => kernel_rfl
          case q2 => kernel_rfl
          case q3 => unfold maxLen; omega
          case q4 => omega
          case q5 => omega
          intro v8 w8 ha8 hg8 hn8
          have hb8 : Below base w6 w8 := (Below.refl base w6).grown hg8 hbs (own2.le f2)
          replace f1 := f1.grownA hg8 (own2.old f2 hgtb.out)
          have hdj8 := own2.dj hn8 f3 hdj.symm
          replace f3 := f3.grown' hg8 hdj.symm
          rw [← hTk.out] at ha8
          clear f1x
          obtain ⟨g8, c8, rfl, _⟩ := (ha8.form (Nat.succ_pos _)).form
          simp only [Act.put]
          refine hK.out _ _ (MS.keep hS6 hb8 hwb.out) (fun hH4 => ?_)
          clear hK K
          refine wpAnyH_take (i := 9) (v := .pointer (some ⟨gt, 1, none⟩)) rfl (by kernel_rfl) (by kernel_rfl) (by kernel_rfl) (fun _ _ _ h => h) (Or.inl ⟨by rfl, by intro w9 hS9; go_simp⟩) hH4 ?_
          have cS := f1.cell 1
          have fS := f1.free 1
          refine wpAnyH_ready (rs := [10]) (by kernel_rfl) (by simp) ?_
          refine AllReadyH.cons rfl (fun K hK => ?_) AllReadyH.nil
          go_simp
          refine hK.out _ _ (MS.set hH4 hgt0.out hgrt.out hgpt.out 1 _) (fun hH5 => ?_)
          clear hK K
          refine wpAnyH_done (by kernel_rfl) ?_ _
          have f1f := f1.set_ 1 (.slice (some ⟨g8, 0, none⟩) (k + 1) c8)
          have ha9 := ha8.setFar (gt := gt) hgtb.out 1 (.slice (some ⟨g8, 0, none⟩) (k + 1) c8)
          have f39 := f3.setFar (gt := gt) hgtb.out 1 (.slice (some ⟨g8, 0, none⟩) (k + 1) c8)
          have hSf := hH5
          go_wp2_with fail
          go_roundw
          case rel =>
            (repeat apply Exists.intro)
            exact ⟨⟨k + 1, _, by omega, by go_num, f1f, f39, ha9, hdj8.symm, hSf, Nat.le_trans (Nat.le_trans hbs hb8.size) ((Below.refl 0 w8).setCell (Nat.zero_le _) _).size⟩, rfl⟩
          case measure => simp [intOf]; omega
    · obtain rfl : k = 64 := by omega
      obtain ⟨gB, cB, rfl, hBge, hBlt, _, _, hcB⟩ := (f3.form (by decide)).form
      obtain ⟨gK, cK, rfl, hKge, hKlt, _, _, hcK⟩ := (f2.form (by decide)).form
      rw [show BG.take 8 = BG from rfl] at hcB
      rw [show KK.take 64 = KK from rfl] at hcK
      have c0 := f1.cell 0
      have c1 := f1.cell 1
      have kr := hS.2.1
      have r0 := kr.cell 0
      have r1 := kr.cell 1
      have q0 := kr.free 0
      have q1 := kr.free 1
      have kv := (kr.set_ 0 (.slice (some ⟨gB, 0, none⟩) 8 cB)).set_ 1 (.slice (some ⟨gK, 0, none⟩) 64 cK)
      have hneB : gB ≠ w.heap.size := by have h8 := hS.2.2.2.2; omega
      have hneK : gK ≠ w.heap.size := by have h8 := hS.2.2.2.2; omega
      have hbv := (hS.2.2.1.setCell (Nat.le_refl w.heap.size) (.slice (some ⟨gB, 0, none⟩) 8 cB) (p := ⟨w.heap.size, 0, none⟩)).setCell (Nat.le_refl w.heap.size) (.slice (some ⟨gK, 0, none⟩) 64 cK) (p := ⟨w.heap.size, 1, none⟩)
      have hB9 : ∀ i, i < 8 → ((wr.setCell ⟨w.heap.size, 0, none⟩ (.slice (some ⟨gB, 0, none⟩) 8 cB)).setCell ⟨w.heap.size, 1, none⟩ (.slice (some ⟨gK, 0, none⟩) 64 cK)).cell? ⟨gB, i, none⟩ = some (.int .u32 (BG.getD i 0)) := fun i hi => by
        rw [World.cell?_setCell_far _ _ _ _ (Ne.symm hneB), World.cell?_setCell_far _ _ _ _ (Ne.symm hneB)]
        exact hcB i _ (by have h9 := U32_at (l := BG) hi; rwa [List.getElem?_toArray] at h9)
      have hK9 : ∀ i, i < 64 → ((wr.setCell ⟨w.heap.size, 0, none⟩ (.slice (some ⟨gB, 0, none⟩) 8 cB)).setCell ⟨w.heap.size, 1, none⟩ (.slice (some ⟨gK, 0, none⟩) 64 cK)).cell? ⟨gK, i, none⟩ = some (.int .u32 (KK.getD i 0)) := fun i hi => by
        rw [World.cell?_setCell_far _ _ _ _ (Ne.symm hneK), World.cell?_setCell_far _ _ _ _ (Ne.symm hneK)]
        exact hcK i _ (by have h9 := U32_at (l := KK) hi; rwa [List.getElem?_toArray] at h9)
      go_wp2_with fail
      generalize (wr.setCell ⟨w.heap.size, 0, none⟩ (.slice (some ⟨gB, 0, none⟩) 8 cB)).setCell ⟨w.heap.size, 1, none⟩ (.slice (some ⟨gK, 0, none⟩) 64 cK) = V at *
      refine bodyPost_ret (v := .agg #[.slice (some ⟨gB, 0, none⟩) 8 cB, .slice (some ⟨gK, 0, none⟩) 64 cK]) (results_cell_row Tryd.results22 _ _ w.heap.size 38 _ (0, 0) _ (by rfl) kv Tryd.underlying38 rfl (by kernel_rfl)) rfl ⟨gB, gK, cB, cK, rfl, hB9, hK9, hbv, Nat.le_trans hwb.out hBge, Nat.le_trans hwb.out hKge⟩
theorem rmade_any (w : World) : Calls Tryd.prog 22 #[] w fun e w' => ∃ gB gK cB cK, e = .returned (.agg #[.slice (some ⟨gB, 0, none⟩) 8 cB, .slice (some ⟨gK, 0, none⟩) 64 cK]) ∧ (∀ i, i < 8 → w'.cell? ⟨gB, i, none⟩ = some (.int .u32 (BG.getD i 0))) ∧ (∀ i, i < 64 → w'.cell? ⟨gK, i, none⟩ = some (.int .u32 (KK.getD i 0))) ∧ Below w.heap.size w w' :=
  (rmade_fresh w).mono fun _ _ ⟨gB, gK, cB, cK, h1, h2, h3, h4, _, _⟩ => ⟨gB, gK, cB, cK, h1, h2, h3, h4⟩
end Go.Proofs.YtidceockbjeaoaaDoor

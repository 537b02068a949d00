/- The law BankPlays: amounts are made, moved and burned as the words say, and told so: for every input. -/
import Derived.Test.YtbimnfmjgmfijaaBp
import Derived.Test.YtbimnfmjgmfijaaBo
namespace Go.Proofs.Ytbimnfmjgmfijaa
open Go.ChangeShapes Go.WideShapes Go.ChangeAt Go.RowKit Go.WideElems
section
attribute [local go_sem ↓] Go.wp_at_zero Go.wp_at_succ
theorem eqWd (n : Nat) (w : World) : (Op.equalIn 10000 38 (.agg #[.int .u64 (limb n 0), .int .u64 (limb n 1), .int .u64 (limb n 2), .int .u64 (limb n 3)]) (.agg #[.int .u64 (limb n 0), .int .u64 (limb n 1), .int .u64 (limb n 2), .int .u64 (limb n 3)])).run Try.prog w = .ok true w := by
  have u3 := Try.underlying35
  have a3 := Try.isAgg35
  have z3 := Try.sizeOf35
  generalize limb n 0 = a
  generalize limb n 1 = b
  generalize limb n 2 = c
  generalize limb n 3 = d
  rw [show (10000 : Nat) = 9999 + 1 from rfl, Op.equalIn]
  simp only [Sem.run_bind, run_underlying Try.underlying38, Result.andThen_ok]
  simp only [Std.Legacy.Range.forIn_eq_forIn_range', Std.Legacy.Range.size, Nat.sub_zero, Nat.add_sub_cancel, Nat.div_one, List.range'_succ, List.range'_zero, List.forIn_cons, List.forIn_nil]
  go_simp
section
variable {P : Program} {ops : Array Oper} {S : World → Prop} {op : Oper} {a : Act}
theorem yk_faB (hw : Region.wanted op (yielded ops a.tmps) = true) (t : TypeId) (x : Operand) (i : Nat) (ho : op.op = .fieldAddr t x i) (X : Value) (hx : a.eval x = X) (v : Value)
    (hr : ∀ w, S w → (Instr.fieldAt t X i).run P w = .ok v w) : YieldsIf P ops S op v a :=
  .inl ⟨hw, fun w hS => by
    have h := hr w hS
    unfold execOp
    simp only [ho, hx]
    rw [Sem.run_bind, h]
    rfl⟩
end
theorem mint_err {E : List Ent} {a d : ByteArray} {n : Nat} (h : (mintL E a d n).1 ≠ 0) : (mintL E a d n).2 = [] := by
  unfold mintL at h ⊢
  by_cases h1 : may1 a d n = true
  · rw [if_pos h1] at h ⊢
    by_cases h2 : wOk (ng E (totB d) + n) = true ∧ wOk (ng E (keyB a d) + n) = true
    · rw [if_pos h2] at h; exact absurd rfl h
    · rw [if_neg h2]
  · rw [if_neg h1]
theorem burn_err {E : List Ent} {a d : ByteArray} {n : Nat} (h : (burnL E a d n).1 ≠ 0) : (burnL E a d n).2 = [] := by
  unfold burnL at h ⊢
  by_cases h1 : may1 a d n = true
  · rw [if_pos h1] at h ⊢
    by_cases h2 : n ≤ ng E (totB d) ∧ n ≤ ng E (keyB a d)
    · rw [if_pos h2] at h; exact absurd rfl h
    · rw [if_neg h2]
  · rw [if_neg h1]
theorem move_err {E : List Ent} {a b d : ByteArray} {n : Nat} (h : (moveL E a b d n).1 ≠ 0) : (moveL E a b d n).2 = [] := by
  unfold moveL at h ⊢
  by_cases h1 : may2 a b d n = true
  · rw [if_pos h1] at h ⊢
    by_cases h2 : n ≤ ng E (keyB a d)
    · rw [if_pos h2] at h ⊢
      by_cases h3 : a = b
      · rw [if_pos h3] at h; exact absurd rfl h
      · rw [if_neg h3] at h ⊢
        by_cases h4 : wOk (ng E (keyB b d) + n) = true
        · rw [if_pos h4] at h; exact absurd rfl h
        · rw [if_neg h4]
    · rw [if_neg h2]
  · rw [if_neg h1]
theorem op_err (k : Int) (E : List Ent) (f t d : ByteArray) (n : Nat) (h : (opL k E f t d n).1 ≠ 0) : (opL k E f t d n).2 = [] := by
  unfold opL at h ⊢
  by_cases h2 : k = 2
  · rw [if_pos h2] at h ⊢; exact burn_err h
  · rw [if_neg h2] at h ⊢
    by_cases h3 : k = 3
    · rw [if_pos h3] at h ⊢; exact move_err h
    · rw [if_neg h3] at h ⊢; exact mint_err h
set_option maxHeartbeats 16000000 in
set_option maxRecDepth 100000 in
theorem l11plays_any (p0 : Option Addr) (cap : Nat) (L : List Op11T) (w : World) (hL : L.length ≤ 9223372036854775807) (Hop : Hid (0 < L.length → ∃ g off, p0 = some ⟨g, off, none⟩ ∧ Op11C w g off L)) :
    Calls Try.prog 5 #[.slice p0 L.length cap] w fun e w' => e = .returned (.bool true) ∧ Below w.heap.size w w' := by
  go_enter Try.func5, Try.ntmps5
  go_wp2_with fail
  refine (awake11_any _).mono ?_
  rintro e w1 ⟨rfl, hb1⟩
  go_wp2_with fail
  have hgd := hb1.size
  go_loopw [5, 6] (fun r i wr => ∃ (k : Nat) (q : Option Addr) (c : Nat) (q2 : Option Addr) (c2 : Nat) (E : List Ent), k ≤ L.length ∧ k ≤ 30 ∧ i = .int .i64 (k : Int) ∧ r = .slice q2 E.length c2 ∧ Hid (Srt E) ∧ E.length ≤ 2 * k ∧ Hid (Ents wr (.slice q E.length c) E) ∧ Hid (Ents wr (.slice q2 E.length c2) E) ∧ Blk wr w1.heap.size 32 #[.slice q E.length c] ∧ Below w.heap.size w wr) (fun _ i _ => (31 - intOf i).toNat)
  case atStart => exact ⟨0, none, 0, none, 0, [], by omega, by omega, rfl, rfl, List.Pairwise.nil, by decide, Ents.nil _, Ents.nil _, blk1 w1 _ _, BW_alloc hb1 _⟩
  case round =>
    obtain ⟨k, q, c, q2, c2, E, hk, hk30, rfl, rfl, hs, hl, hd, hr, kd, hb⟩ := hrel
    by_cases hlt : k < L.length ∧ k < 30
    · obtain ⟨hlt1, hlt2⟩ := hlt
      obtain ⟨g, off, rfl, hop⟩ := Hop.out (by omega)
      have ho := (hop.on hb) k hlt1
      have hk1 : (k : Int) < (L.length : Int) := by omega
      have hk2 : (k : Int) < 30 := by omega
      have hk3 : wrap64 ((k : Int) + 1) = (k : Int) + 1 := by unfold wrap64; omega
      clear hop
      obtain ⟨o, hoe⟩ : ∃ o, o = L[k] := ⟨_, rfl⟩
      rw [← hoe] at ho
      clear hoe
      obtain ⟨ok, of, ot, od, on, oraw, osm, ohn⟩ := o
      have o0 : wr.cell? ⟨g, off + k * 10, none⟩ = some (.int .i64 ok) := ho 0 (by decide)
      have o1 : wr.cell? ⟨g, off + k * 10 + 1, none⟩ = some (.string of) := ho 1 (by decide)
      have o2 : wr.cell? ⟨g, off + k * 10 + 2, none⟩ = some (.string ot) := ho 2 (by decide)
      have o3 : wr.cell? ⟨g, off + k * 10 + 3, none⟩ = some (.string od) := ho 3 (by decide)
      have o4 : wr.cell? ⟨g, off + k * 10 + 4, none⟩ = some (.int .u64 (limb on 0)) := ho 4 (by decide)
      have o5 : wr.cell? ⟨g, off + k * 10 + 5, none⟩ = some (.int .u64 (limb on 1)) := ho 5 (by decide)
      have o6 : wr.cell? ⟨g, off + k * 10 + 6, none⟩ = some (.int .u64 (limb on 2)) := ho 6 (by decide)
      have o7 : wr.cell? ⟨g, off + k * 10 + 7, none⟩ = some (.int .u64 (limb on 3)) := ho 7 (by decide)
      have o8 : wr.cell? ⟨g, off + k * 10 + 8, none⟩ = some (.bool oraw) := ho 8 (by decide)
      have o9 : wr.cell? ⟨g, off + k * 10 + 9, none⟩ = some (.bool osm) := ho 9 (by decide)
      obtain ⟨m, hm, hsm⟩ := small11_any ok of ot od on oraw osm ohn
      have zf := smT_size oraw 1 of
      have zt := smT_size oraw 1 ot
      have zd := smT_size oraw 3 od
      generalize smT oraw 1 of = F at *
      generalize smT oraw 1 ot = T at *
      generalize smT oraw 3 od = D at *
      have Hsm := Lib.hid hsm
      clear hsm ho
      go_wp2_with fail
      refine (Hsm.out _).mono ?_
      rintro e w2 ⟨rfl, hb2⟩
      clear o0 o1 o2 o3 o4 o5 o6 o7 o8 o9 Hsm
      have g12 : w1.heap.size < w2.heap.size := (kd.on hb2).lt
      replace kd := (kd.on hb2).alloc (.cells #[.int .i64 ok, .string F, .string T, .string D, .int .u64 (limb m 0), .int .u64 (limb m 1), .int .u64 (limb m 2), .int .u64 (limb m 3), .bool oraw, .bool osm] 40)
      replace hd := Lib.hid ((hd.out.on hb2).on (BW_alloc (BW_refl _) (.cells #[.int .i64 ok, .string F, .string T, .string D, .int .u64 (limb m 0), .int .u64 (limb m 1), .int .u64 (limb m 2), .int .u64 (limb m 3), .bool oraw, .bool osm] 40)))
      replace hr := Lib.hid ((hr.out.on hb2).on (BW_alloc (BW_refl _) (.cells #[.int .i64 ok, .string F, .string T, .string D, .int .u64 (limb m 0), .int .u64 (limb m 1), .int .u64 (limb m 2), .int .u64 (limb m 3), .bool oraw, .bool osm] 40)))
      replace hb := BW_alloc (BW_on hb hb2) (.cells #[.int .i64 ok, .string F, .string T, .string D, .int .u64 (limb m 0), .int .u64 (limb m 1), .int .u64 (limb m 2), .int .u64 (limb m 3), .bool oraw, .bool osm] 40)
      have k7 := blk1 w2 40 #[.int .i64 ok, .string F, .string T, .string D, .int .u64 (limb m 0), .int .u64 (limb m 1), .int .u64 (limb m 2), .int .u64 (limb m 3), .bool oraw, .bool osm]
      clear hb2
      have c7 := fun i => k7.cell i
      have cd := fun i => kd.cell i
      rcases hR : opL (bits .and .i64 ok 3) E F T D m with ⟨x, M⟩
      have HO := fun w v u hv hu => of11_any v u E E ok F T D m oraw osm w hv hu hs.out hs.out (by omega) (by omega) hm
      rw [hR] at HO
      have HO := Lib.hid HO
      have hinv := op_inv hs.out (bits .and .i64 ok 3) F T D m
      rw [hR] at hinv
      have herr := op_err (bits .and .i64 ok 3) E F T D m
      rw [hR] at herr
      have hsM : Hid (Srt M) := hinv.1
      have hlM : M.length ≤ E.length + 2 := hinv.2
      clear hinv hR
      go_wp2_with fail
      refine (HO.out _ _ _ hd.out hr.out).mono ?_
      rintro e w3 ⟨q3, c3, v3, rfl, he1, he2, hb3⟩
      obtain ⟨q4, c4, rfl⟩ := he2.len
      have g13 : w1.heap.size < w3.heap.size := (kd.on hb3).lt
      have g23 : w2.heap.size < w3.heap.size := (k7.on hb3).lt
      clear c7 cd HO
      have kd0 := kd.on hb3
      have k70 := k7.on hb3
      have hb0 := BW_on hb hb3
      replace kd := (kd.on hb3).alloc (.cells #[.slice q3 M.length c3] 32)
      replace hd := Lib.hid ((hd.out.on hb3).on (BW_alloc (BW_refl _) (.cells #[.slice q3 M.length c3] 32)))
      replace hr := Lib.hid ((hr.out.on hb3).on (BW_alloc (BW_refl _) (.cells #[.slice q3 M.length c3] 32)))
      replace hb := BW_alloc (BW_on hb hb3) (.cells #[.slice q3 M.length c3] 32)
      replace k7 := (k7.on hb3).alloc (.cells #[.slice q3 M.length c3] 32)
      have he1b := Lib.hid (he1.on (BW_alloc (BW_refl _) (.cells #[.slice q3 M.length c3] 32)))
      have he2b := Lib.hid (he2.on (BW_alloc (BW_refl _) (.cells #[.slice q3 M.length c3] 32)))
      have k8 := blk1 w3 32 #[.slice q3 M.length c3]
      clear hb3
      have c8 := fun i => k8.cell i
      have cd := fun i => kd.cell i
      have fd := fun i => kd.free i
      by_cases hx : x = 0
      · subst hx
        have hf1 := Lib.hid ((he1.box kd0 (.slice q3 M.length c3)).on (BW_alloc (BW_refl _) (.cells #[.slice q3 M.length c3] 32)))
        have hf2 := Lib.hid ((he2.box kd0 (.slice q3 M.length c3)).on (BW_alloc (BW_refl _) (.cells #[.slice q3 M.length c3] 32)))
        have hbf := BW_alloc (hb0.setCell (p := ⟨w1.heap.size, 0, none⟩) hgd (.slice q3 M.length c3)) (.cells #[.slice q3 M.length c3] 32)
        have kd2 : Blk ((w3.setCell ⟨w1.heap.size, 0, none⟩ (.slice q3 M.length c3)).alloc (.cells #[.slice q3 M.length c3] 32)) w1.heap.size 32 #[.slice q3 M.length c3] := (kd0.set_ 0 (.slice q3 M.length c3)).alloc _
        have k72 := (k70.far (p := ⟨w1.heap.size, 0, none⟩) (by show w2.heap.size ≠ w1.heap.size; omega) (.slice q3 M.length c3)).alloc (.cells #[.slice q3 M.length c3] 32)
        clear hd hr hb he1b he2b he1 he2 hb0
        go_upto_region 14 with (fail)
        change Code.wp _ _ _ _ ((w3.setCell ⟨w1.heap.size, 0, none⟩ (.slice q3 M.length c3)).alloc (.cells #[.slice q3 M.length c3] 32))
        clear c8 cd fd kd k7 k8 kd0 k70
        generalize (w3.setCell ⟨w1.heap.size, 0, none⟩ (.slice q3 M.length c3)).alloc (.cells #[.slice q3 M.length c3] 32) = V1 at *
        have cd2 := fun i => kd2.cell i
        go_wp2_with fail
        refine (all_any _ M _ hf1.out (by omega)).mono ?_
        rintro e w4 ⟨vb, rfl, hown, hb4⟩
        have ha : Hid (Ents w4 vb M) := own_ents hown
        clear hown cd2
        go_wp2_with fail
        refine (rsame_any _ _ M M _ ha.out (hf2.out.on hb4) (by omega) (by omega)).mono ?_
        rintro e wZ ⟨rfl, hb5⟩
        rw [decide_eq_true rfl]
        have hd := Lib.hid ((hf1.out.on hb4).on hb5)
        have hr := Lib.hid ((hf2.out.on hb4).on hb5)
        have kd := (kd2.on hb4).on hb5
        have k7 := (k72.on hb4).on hb5
        have hb := BW_on (BW_on hbf hb4) hb5
        clear hf1 hf2 kd2 k72 hbf hb4 hb5 ha
        go_upto_region 15 with (fail)
        refine wp_region_held_drew (S := BxS wZ [(w1.heap.size, 32, #[.slice q3 M.length c3]), (w2.heap.size, 40, #[.int .i64 ok, .string F, .string T, .string D, .int .u64 (limb m 0), .int .u64 (limb m 1), .int .u64 (limb m 2), .int .u64 (limb m 3), .bool oraw, .bool osm])]) (by kernel_rfl) (((BxS.nil (BW_refl wZ)).cons k7).cons kd).drew (fun hH0 => ?_)
        refine wpAnyH_take (i := 0) (v := .bool true) rfl (by kernel_rfl) (by kernel_rfl) (by kernel_rfl) (fun _ _ _ h => h) (yk_move (by kernel_rfl) _ rfl _ (by kernel_rfl)) hH0 ?_
        refine wpAnyH_take (i := 1) (v := .bool false) rfl (by kernel_rfl) (by kernel_rfl) (by kernel_rfl) (fun _ _ _ h => h) (yk_un (by kernel_rfl) _ _ _ rfl (.bool true) (by kernel_rfl) _ (fun w' hw' => by go_simp)) hH0 ?_
        refine wpAnyH_take (i := 2) (v := .bool false) rfl (by kernel_rfl) (by kernel_rfl) (by kernel_rfl) (fun _ _ _ h => h) (yk_move (by kernel_rfl) _ rfl _ (by kernel_rfl)) hH0 ?_
        refine wpAnyH_take (i := 3) (v := .agg #[.slice q3 M.length c3]) rfl (by kernel_rfl) (by kernel_rfl) (by kernel_rfl) (fun _ _ _ h => h) (yk_load (by kernel_rfl) _ _ rfl (.pointer (some ⟨w1.heap.size, 0, none⟩)) (by kernel_rfl) _ (fun w' hw' => by have c0 := (hw'.bl _ (.head _)).cell 0; go_simp)) hH0 ?_
        refine wpAnyH_take (i := 4) (v := .pointer (some ⟨w2.heap.size, 1, none⟩)) rfl (by kernel_rfl) (by kernel_rfl) (by kernel_rfl) (fun _ _ _ h => h) (yk_faB (by kernel_rfl) _ _ _ rfl (.pointer (some ⟨w2.heap.size, 0, none⟩)) (by kernel_rfl) _ (fun w' hw' => by go_simp)) hH0 ?_
        refine wpAnyH_take (i := 5) (v := .string F) rfl (by kernel_rfl) (by kernel_rfl) (by kernel_rfl) (fun _ _ _ h => h) (yk_load (by kernel_rfl) _ _ rfl (.pointer (some ⟨w2.heap.size, 1, none⟩)) (by kernel_rfl) _ (fun w' hw' => by have c0 := (hw'.bl _ (.tail _ (.head _))).cell 1; go_simp)) hH0 ?_
        refine wpAnyH_take (i := 6) (v := .pointer (some ⟨w2.heap.size, 3, none⟩)) rfl (by kernel_rfl) (by kernel_rfl) (by kernel_rfl) (fun _ _ _ h => h) (yk_faB (by kernel_rfl) _ _ _ rfl (.pointer (some ⟨w2.heap.size, 0, none⟩)) (by kernel_rfl) _ (fun w' hw' => by go_simp)) hH0 ?_
        refine wpAnyH_take (i := 7) (v := .string D) rfl (by kernel_rfl) (by kernel_rfl) (by kernel_rfl) (fun _ _ _ h => h) (yk_load (by kernel_rfl) _ _ rfl (.pointer (some ⟨w2.heap.size, 3, none⟩)) (by kernel_rfl) _ (fun w' hw' => by have c0 := (hw'.bl _ (.tail _ (.head _))).cell 3; go_simp)) hH0 ?_
        refine wpAnyH_take (i := 9) (v := .slice q4 M.length c4) rfl (by kernel_rfl) (by kernel_rfl) (by kernel_rfl) (fun _ _ _ h => h) (yk_move (by kernel_rfl) _ rfl _ (by kernel_rfl)) hH0 ?_
        refine wpAnyH_take (i := 10) (v := .pointer (some ⟨w2.heap.size, 1, none⟩)) rfl (by kernel_rfl) (by kernel_rfl) (by kernel_rfl) (fun _ _ _ h => h) (yk_faB (by kernel_rfl) _ _ _ rfl (.pointer (some ⟨w2.heap.size, 0, none⟩)) (by kernel_rfl) _ (fun w' hw' => by go_simp)) hH0 ?_
        refine wpAnyH_take (i := 11) (v := .string F) rfl (by kernel_rfl) (by kernel_rfl) (by kernel_rfl) (fun _ _ _ h => h) (yk_load (by kernel_rfl) _ _ rfl (.pointer (some ⟨w2.heap.size, 1, none⟩)) (by kernel_rfl) _ (fun w' hw' => by have c0 := (hw'.bl _ (.tail _ (.head _))).cell 1; go_simp)) hH0 ?_
        refine wpAnyH_take (i := 12) (v := .pointer (some ⟨w2.heap.size, 3, none⟩)) rfl (by kernel_rfl) (by kernel_rfl) (by kernel_rfl) (fun _ _ _ h => h) (yk_faB (by kernel_rfl) _ _ _ rfl (.pointer (some ⟨w2.heap.size, 0, none⟩)) (by kernel_rfl) _ (fun w' hw' => by go_simp)) hH0 ?_
        refine wpAnyH_take (i := 13) (v := .string D) rfl (by kernel_rfl) (by kernel_rfl) (by kernel_rfl) (fun _ _ _ h => h) (yk_load (by kernel_rfl) _ _ rfl (.pointer (some ⟨w2.heap.size, 3, none⟩)) (by kernel_rfl) _ (fun w' hw' => by have c0 := (hw'.bl _ (.tail _ (.head _))).cell 3; go_simp)) hH0 ?_
        refine wpAnyH_ready (rs := [8]) (by kernel_rfl) (by simp) ?_
        refine AllReadyH.cons rfl (fun K hK => ?_) AllReadyH.nil
        go_simp
        go_at_call 23
        refine (bbal_any _ M F D _ (hd.out.on hH0.hb) hsM.out (by omega) (by omega) (by omega)).mono ?_
        rintro e w8 ⟨rfl, hd8⟩
        go_wp2_with fail
        refine hK.out _ _ (hH0.on hd8) (fun hH1 => ?_)
        clear hK K
        refine wpAnyH_ready (rs := [14]) (by kernel_rfl) (by simp) ?_
        refine AllReadyH.cons rfl (fun K hK => ?_) AllReadyH.nil
        go_simp
        go_at_call 30
        refine (r11bal_any _ M F D _ (hr.out.on hH1.hb) (by omega) (by omega) (by omega)).mono ?_
        rintro e w14 ⟨rfl, hd14⟩
        go_wp2_with fail
        refine hK.out _ _ (hH1.on hd14) (fun hH2 => ?_)
        clear hK K
        refine wpAnyH_take (i := 15) (v := .bool false) rfl (by kernel_rfl) (by kernel_rfl) (by kernel_rfl) (fun _ _ _ h => h) (yk_bin (by kernel_rfl) _ _ _ _ _ rfl (.agg #[.int .u64 (limb (ng M (keyB F D)) 0), .int .u64 (limb (ng M (keyB F D)) 1), .int .u64 (limb (ng M (keyB F D)) 2), .int .u64 (limb (ng M (keyB F D)) 3)]) (.agg #[.int .u64 (limb (ng M (keyB F D)) 0), .int .u64 (limb (ng M (keyB F D)) 1), .int .u64 (limb (ng M (keyB F D)) 2), .int .u64 (limb (ng M (keyB F D)) 3)]) (by kernel_rfl) (by kernel_rfl) _ (fun w' hw' => by have h0 := eqWd (ng M (keyB F D)) w'; go_simp)) hH2 ?_
        refine wpAnyH_take (i := 16) (v := .bool false) rfl (by kernel_rfl) (by kernel_rfl) (by kernel_rfl) (fun _ _ _ h => h) (yk_pick (by kernel_rfl) _ _ _ rfl false (by kernel_rfl) _ (by kernel_rfl)) hH2 ?_
        refine wpAnyH_take (i := 17) (v := .bool false) rfl (by kernel_rfl) (by kernel_rfl) (by kernel_rfl) (fun _ _ _ h => h) (yk_move (by kernel_rfl) _ rfl _ (by kernel_rfl)) hH2 ?_
        refine wpAnyH_take (i := 18) (v := .agg #[.slice q3 M.length c3]) rfl (by kernel_rfl) (by kernel_rfl) (by kernel_rfl) (fun _ _ _ h => h) (yk_load (by kernel_rfl) _ _ rfl (.pointer (some ⟨w1.heap.size, 0, none⟩)) (by kernel_rfl) _ (fun w' hw' => by have c0 := (hw'.bl _ (.head _)).cell 0; go_simp)) hH2 ?_
        refine wpAnyH_take (i := 19) (v := .pointer (some ⟨w2.heap.size, 2, none⟩)) rfl (by kernel_rfl) (by kernel_rfl) (by kernel_rfl) (fun _ _ _ h => h) (yk_faB (by kernel_rfl) _ _ _ rfl (.pointer (some ⟨w2.heap.size, 0, none⟩)) (by kernel_rfl) _ (fun w' hw' => by go_simp)) hH2 ?_
        refine wpAnyH_take (i := 20) (v := .string T) rfl (by kernel_rfl) (by kernel_rfl) (by kernel_rfl) (fun _ _ _ h => h) (yk_load (by kernel_rfl) _ _ rfl (.pointer (some ⟨w2.heap.size, 2, none⟩)) (by kernel_rfl) _ (fun w' hw' => by have c0 := (hw'.bl _ (.tail _ (.head _))).cell 2; go_simp)) hH2 ?_
        refine wpAnyH_take (i := 21) (v := .pointer (some ⟨w2.heap.size, 3, none⟩)) rfl (by kernel_rfl) (by kernel_rfl) (by kernel_rfl) (fun _ _ _ h => h) (yk_faB (by kernel_rfl) _ _ _ rfl (.pointer (some ⟨w2.heap.size, 0, none⟩)) (by kernel_rfl) _ (fun w' hw' => by go_simp)) hH2 ?_
        refine wpAnyH_take (i := 22) (v := .string D) rfl (by kernel_rfl) (by kernel_rfl) (by kernel_rfl) (fun _ _ _ h => h) (yk_load (by kernel_rfl) _ _ rfl (.pointer (some ⟨w2.heap.size, 3, none⟩)) (by kernel_rfl) _ (fun w' hw' => by have c0 := (hw'.bl _ (.tail _ (.head _))).cell 3; go_simp)) hH2 ?_
        refine wpAnyH_take (i := 24) (v := .slice q4 M.length c4) rfl (by kernel_rfl) (by kernel_rfl) (by kernel_rfl) (fun _ _ _ h => h) (yk_move (by kernel_rfl) _ rfl _ (by kernel_rfl)) hH2 ?_
        refine wpAnyH_take (i := 25) (v := .pointer (some ⟨w2.heap.size, 2, none⟩)) rfl (by kernel_rfl) (by kernel_rfl) (by kernel_rfl) (fun _ _ _ h => h) (yk_faB (by kernel_rfl) _ _ _ rfl (.pointer (some ⟨w2.heap.size, 0, none⟩)) (by kernel_rfl) _ (fun w' hw' => by go_simp)) hH2 ?_
        refine wpAnyH_take (i := 26) (v := .string T) rfl (by kernel_rfl) (by kernel_rfl) (by kernel_rfl) (fun _ _ _ h => h) (yk_load (by kernel_rfl) _ _ rfl (.pointer (some ⟨w2.heap.size, 2, none⟩)) (by kernel_rfl) _ (fun w' hw' => by have c0 := (hw'.bl _ (.tail _ (.head _))).cell 2; go_simp)) hH2 ?_
        refine wpAnyH_take (i := 27) (v := .pointer (some ⟨w2.heap.size, 3, none⟩)) rfl (by kernel_rfl) (by kernel_rfl) (by kernel_rfl) (fun _ _ _ h => h) (yk_faB (by kernel_rfl) _ _ _ rfl (.pointer (some ⟨w2.heap.size, 0, none⟩)) (by kernel_rfl) _ (fun w' hw' => by go_simp)) hH2 ?_
        refine wpAnyH_take (i := 28) (v := .string D) rfl (by kernel_rfl) (by kernel_rfl) (by kernel_rfl) (fun _ _ _ h => h) (yk_load (by kernel_rfl) _ _ rfl (.pointer (some ⟨w2.heap.size, 3, none⟩)) (by kernel_rfl) _ (fun w' hw' => by have c0 := (hw'.bl _ (.tail _ (.head _))).cell 3; go_simp)) hH2 ?_
        refine wpAnyH_ready (rs := [23]) (by kernel_rfl) (by simp) ?_
        refine AllReadyH.cons rfl (fun K hK => ?_) AllReadyH.nil
        go_simp
        go_at_call 23
        refine (bbal_any _ M T D _ (hd.out.on hH2.hb) hsM.out (by omega) (by omega) (by omega)).mono ?_
        rintro e w23 ⟨rfl, hd23⟩
        go_wp2_with fail
        refine hK.out _ _ (hH2.on hd23) (fun hH3 => ?_)
        clear hK K
        refine wpAnyH_ready (rs := [29]) (by kernel_rfl) (by simp) ?_
        refine AllReadyH.cons rfl (fun K hK => ?_) AllReadyH.nil
        go_simp
        go_at_call 30
        refine (r11bal_any _ M T D _ (hr.out.on hH3.hb) (by omega) (by omega) (by omega)).mono ?_
        rintro e w29 ⟨rfl, hd29⟩
        go_wp2_with fail
        refine hK.out _ _ (hH3.on hd29) (fun hH4 => ?_)
        clear hK K
        refine wpAnyH_take (i := 30) (v := .bool false) rfl (by kernel_rfl) (by kernel_rfl) (by kernel_rfl) (fun _ _ _ h => h) (yk_bin (by kernel_rfl) _ _ _ _ _ rfl (.agg #[.int .u64 (limb (ng M (keyB T D)) 0), .int .u64 (limb (ng M (keyB T D)) 1), .int .u64 (limb (ng M (keyB T D)) 2), .int .u64 (limb (ng M (keyB T D)) 3)]) (.agg #[.int .u64 (limb (ng M (keyB T D)) 0), .int .u64 (limb (ng M (keyB T D)) 1), .int .u64 (limb (ng M (keyB T D)) 2), .int .u64 (limb (ng M (keyB T D)) 3)]) (by kernel_rfl) (by kernel_rfl) _ (fun w' hw' => by have h0 := eqWd (ng M (keyB T D)) w'; go_simp)) hH4 ?_
        refine wpAnyH_take (i := 31) (v := .bool false) rfl (by kernel_rfl) (by kernel_rfl) (by kernel_rfl) (fun _ _ _ h => h) (yk_pick (by kernel_rfl) _ _ _ rfl false (by kernel_rfl) _ (by kernel_rfl)) hH4 ?_
        refine wpAnyH_take (i := 32) (v := .bool false) rfl (by kernel_rfl) (by kernel_rfl) (by kernel_rfl) (fun _ _ _ h => h) (yk_move (by kernel_rfl) _ rfl _ (by kernel_rfl)) hH4 ?_
        refine wpAnyH_take (i := 33) (v := .agg #[.slice q3 M.length c3]) rfl (by kernel_rfl) (by kernel_rfl) (by kernel_rfl) (fun _ _ _ h => h) (yk_load (by kernel_rfl) _ _ rfl (.pointer (some ⟨w1.heap.size, 0, none⟩)) (by kernel_rfl) _ (fun w' hw' => by have c0 := (hw'.bl _ (.head _)).cell 0; go_simp)) hH4 ?_
        refine wpAnyH_take (i := 34) (v := .pointer (some ⟨w2.heap.size, 3, none⟩)) rfl (by kernel_rfl) (by kernel_rfl) (by kernel_rfl) (fun _ _ _ h => h) (yk_faB (by kernel_rfl) _ _ _ rfl (.pointer (some ⟨w2.heap.size, 0, none⟩)) (by kernel_rfl) _ (fun w' hw' => by go_simp)) hH4 ?_
        refine wpAnyH_take (i := 35) (v := .string D) rfl (by kernel_rfl) (by kernel_rfl) (by kernel_rfl) (fun _ _ _ h => h) (yk_load (by kernel_rfl) _ _ rfl (.pointer (some ⟨w2.heap.size, 3, none⟩)) (by kernel_rfl) _ (fun w' hw' => by have c0 := (hw'.bl _ (.tail _ (.head _))).cell 3; go_simp)) hH4 ?_
        refine wpAnyH_take (i := 37) (v := .slice q4 M.length c4) rfl (by kernel_rfl) (by kernel_rfl) (by kernel_rfl) (fun _ _ _ h => h) (yk_move (by kernel_rfl) _ rfl _ (by kernel_rfl)) hH4 ?_
        refine wpAnyH_take (i := 38) (v := .pointer (some ⟨w2.heap.size, 3, none⟩)) rfl (by kernel_rfl) (by kernel_rfl) (by kernel_rfl) (fun _ _ _ h => h) (yk_faB (by kernel_rfl) _ _ _ rfl (.pointer (some ⟨w2.heap.size, 0, none⟩)) (by kernel_rfl) _ (fun w' hw' => by go_simp)) hH4 ?_
        refine wpAnyH_take (i := 39) (v := .string D) rfl (by kernel_rfl) (by kernel_rfl) (by kernel_rfl) (fun _ _ _ h => h) (yk_load (by kernel_rfl) _ _ rfl (.pointer (some ⟨w2.heap.size, 3, none⟩)) (by kernel_rfl) _ (fun w' hw' => by have c0 := (hw'.bl _ (.tail _ (.head _))).cell 3; go_simp)) hH4 ?_
        refine wpAnyH_ready (rs := [36]) (by kernel_rfl) (by simp) ?_
        refine AllReadyH.cons rfl (fun K hK => ?_) AllReadyH.nil
        go_simp
        go_at_call 24
        refine (bsup_any _ M D _ (hd.out.on hH4.hb) hsM.out (by omega) (by omega)).mono ?_
        rintro e w36 ⟨rfl, hd36⟩
        go_wp2_with fail
        refine hK.out _ _ (hH4.on hd36) (fun hH5 => ?_)
        clear hK K
        refine wpAnyH_ready (rs := [40]) (by kernel_rfl) (by simp) ?_
        refine AllReadyH.cons rfl (fun K hK => ?_) AllReadyH.nil
        go_simp
        go_at_call 31
        refine (r11sup_any _ M D _ (hr.out.on hH5.hb) (by omega) (by omega)).mono ?_
        rintro e w40 ⟨rfl, hd40⟩
        go_wp2_with fail
        refine hK.out _ _ (hH5.on hd40) (fun hH6 => ?_)
        clear hK K
        refine wpAnyH_take (i := 41) (v := .bool false) rfl (by kernel_rfl) (by kernel_rfl) (by kernel_rfl) (fun _ _ _ h => h) (yk_bin (by kernel_rfl) _ _ _ _ _ rfl (.agg #[.int .u64 (limb (ng M (totB D)) 0), .int .u64 (limb (ng M (totB D)) 1), .int .u64 (limb (ng M (totB D)) 2), .int .u64 (limb (ng M (totB D)) 3)]) (.agg #[.int .u64 (limb (ng M (totB D)) 0), .int .u64 (limb (ng M (totB D)) 1), .int .u64 (limb (ng M (totB D)) 2), .int .u64 (limb (ng M (totB D)) 3)]) (by kernel_rfl) (by kernel_rfl) _ (fun w' hw' => by have h0 := eqWd (ng M (totB D)) w'; go_simp)) hH6 ?_
        refine wpAnyH_take (i := 42) (v := .bool false) rfl (by kernel_rfl) (by kernel_rfl) (by kernel_rfl) (fun _ _ _ h => h) (yk_pick (by kernel_rfl) _ _ _ rfl false (by kernel_rfl) _ (by kernel_rfl)) hH6 ?_
        refine wpAnyH_done (by kernel_rfl) ?_ _
        have hbz := hH6.hb
        have kdz := hH6.bl _ (.head _)
        go_wp2_with fail
        go_roundw
        case rel => exact ⟨k + 1, q3, c3, q4, c4, M, by omega, by omega, by go_num, rfl, hsM, by omega, Lib.hid (hd.out.on hbz), Lib.hid (hr.out.on hbz), kdz, BW_on hb hbz⟩
        case measure => simp [intOf]; omega
      · obtain rfl : M = [] := herr hx
        go_wp2_with fail
        refine (dlen_any _ [] _ he1b.out).mono ?_
        rintro e w3b ⟨rfl, hb3b⟩
        replace kd := kd.on hb3b
        replace k7 := k7.on hb3b
        replace hd := Lib.hid (hd.out.on hb3b)
        replace hr := Lib.hid (hr.out.on hb3b)
        replace hb := BW_on hb hb3b
        clear c8 cd fd k8 he1b he2b hb3b he1 he2 hb0 kd0 k70
        have cd := fun i => kd.cell i
        go_wp2_with fail
        refine (all_any _ E _ hd.out (by omega)).mono ?_
        rintro e w4 ⟨vb, rfl, hown, hb4⟩
        have ha : Hid (Ents w4 vb E) := own_ents hown
        clear hown cd
        go_wp2_with fail
        refine (rsame_any _ _ E E _ ha.out (hr.out.on hb4) (by omega) (by omega)).mono ?_
        rintro e wZ ⟨rfl, hb5⟩
        rw [decide_eq_true rfl]
        replace hd := Lib.hid ((hd.out.on hb4).on hb5)
        replace hr := Lib.hid ((hr.out.on hb4).on hb5)
        replace kd := (kd.on hb4).on hb5
        replace k7 := (k7.on hb4).on hb5
        replace hb := BW_on (BW_on hb hb4) hb5
        clear hb4 hb5 ha
        go_upto_region 15 with (fail)
        refine wp_region_held_drew (S := BxS wZ [(w1.heap.size, 32, #[.slice q E.length c]), (w2.heap.size, 40, #[.int .i64 ok, .string F, .string T, .string D, .int .u64 (limb m 0), .int .u64 (limb m 1), .int .u64 (limb m 2), .int .u64 (limb m 3), .bool oraw, .bool osm])]) (by kernel_rfl) (((BxS.nil (BW_refl wZ)).cons k7).cons kd).drew (fun hH0 => ?_)
        refine wpAnyH_take (i := 0) (v := .bool true) rfl (by kernel_rfl) (by kernel_rfl) (by kernel_rfl) (fun _ _ _ h => h) (yk_move (by kernel_rfl) _ rfl _ (by kernel_rfl)) hH0 ?_
        refine wpAnyH_take (i := 1) (v := .bool false) rfl (by kernel_rfl) (by kernel_rfl) (by kernel_rfl) (fun _ _ _ h => h) (yk_un (by kernel_rfl) _ _ _ rfl (.bool true) (by kernel_rfl) _ (fun w' hw' => by go_simp)) hH0 ?_
        refine wpAnyH_take (i := 2) (v := .bool false) rfl (by kernel_rfl) (by kernel_rfl) (by kernel_rfl) (fun _ _ _ h => h) (yk_move (by kernel_rfl) _ rfl _ (by kernel_rfl)) hH0 ?_
        refine wpAnyH_take (i := 3) (v := .agg #[.slice q E.length c]) rfl (by kernel_rfl) (by kernel_rfl) (by kernel_rfl) (fun _ _ _ h => h) (yk_load (by kernel_rfl) _ _ rfl (.pointer (some ⟨w1.heap.size, 0, none⟩)) (by kernel_rfl) _ (fun w' hw' => by have c0 := (hw'.bl _ (.head _)).cell 0; go_simp)) hH0 ?_
        refine wpAnyH_take (i := 4) (v := .pointer (some ⟨w2.heap.size, 1, none⟩)) rfl (by kernel_rfl) (by kernel_rfl) (by kernel_rfl) (fun _ _ _ h => h) (yk_faB (by kernel_rfl) _ _ _ rfl (.pointer (some ⟨w2.heap.size, 0, none⟩)) (by kernel_rfl) _ (fun w' hw' => by go_simp)) hH0 ?_
        refine wpAnyH_take (i := 5) (v := .string F) rfl (by kernel_rfl) (by kernel_rfl) (by kernel_rfl) (fun _ _ _ h => h) (yk_load (by kernel_rfl) _ _ rfl (.pointer (some ⟨w2.heap.size, 1, none⟩)) (by kernel_rfl) _ (fun w' hw' => by have c0 := (hw'.bl _ (.tail _ (.head _))).cell 1; go_simp)) hH0 ?_
        refine wpAnyH_take (i := 6) (v := .pointer (some ⟨w2.heap.size, 3, none⟩)) rfl (by kernel_rfl) (by kernel_rfl) (by kernel_rfl) (fun _ _ _ h => h) (yk_faB (by kernel_rfl) _ _ _ rfl (.pointer (some ⟨w2.heap.size, 0, none⟩)) (by kernel_rfl) _ (fun w' hw' => by go_simp)) hH0 ?_
        refine wpAnyH_take (i := 7) (v := .string D) rfl (by kernel_rfl) (by kernel_rfl) (by kernel_rfl) (fun _ _ _ h => h) (yk_load (by kernel_rfl) _ _ rfl (.pointer (some ⟨w2.heap.size, 3, none⟩)) (by kernel_rfl) _ (fun w' hw' => by have c0 := (hw'.bl _ (.tail _ (.head _))).cell 3; go_simp)) hH0 ?_
        refine wpAnyH_take (i := 9) (v := .slice q2 E.length c2) rfl (by kernel_rfl) (by kernel_rfl) (by kernel_rfl) (fun _ _ _ h => h) (yk_move (by kernel_rfl) _ rfl _ (by kernel_rfl)) hH0 ?_
        refine wpAnyH_take (i := 10) (v := .pointer (some ⟨w2.heap.size, 1, none⟩)) rfl (by kernel_rfl) (by kernel_rfl) (by kernel_rfl) (fun _ _ _ h => h) (yk_faB (by kernel_rfl) _ _ _ rfl (.pointer (some ⟨w2.heap.size, 0, none⟩)) (by kernel_rfl) _ (fun w' hw' => by go_simp)) hH0 ?_
        refine wpAnyH_take (i := 11) (v := .string F) rfl (by kernel_rfl) (by kernel_rfl) (by kernel_rfl) (fun _ _ _ h => h) (yk_load (by kernel_rfl) _ _ rfl (.pointer (some ⟨w2.heap.size, 1, none⟩)) (by kernel_rfl) _ (fun w' hw' => by have c0 := (hw'.bl _ (.tail _ (.head _))).cell 1; go_simp)) hH0 ?_
        refine wpAnyH_take (i := 12) (v := .pointer (some ⟨w2.heap.size, 3, none⟩)) rfl (by kernel_rfl) (by kernel_rfl) (by kernel_rfl) (fun _ _ _ h => h) (yk_faB (by kernel_rfl) _ _ _ rfl (.pointer (some ⟨w2.heap.size, 0, none⟩)) (by kernel_rfl) _ (fun w' hw' => by go_simp)) hH0 ?_
        refine wpAnyH_take (i := 13) (v := .string D) rfl (by kernel_rfl) (by kernel_rfl) (by kernel_rfl) (fun _ _ _ h => h) (yk_load (by kernel_rfl) _ _ rfl (.pointer (some ⟨w2.heap.size, 3, none⟩)) (by kernel_rfl) _ (fun w' hw' => by have c0 := (hw'.bl _ (.tail _ (.head _))).cell 3; go_simp)) hH0 ?_
        refine wpAnyH_ready (rs := [8]) (by kernel_rfl) (by simp) ?_
        refine AllReadyH.cons rfl (fun K hK => ?_) AllReadyH.nil
        go_simp
        go_at_call 23
        refine (bbal_any _ E F D _ (hd.out.on hH0.hb) hs.out (by omega) (by omega) (by omega)).mono ?_
        rintro e w8 ⟨rfl, hd8⟩
        go_wp2_with fail
        refine hK.out _ _ (hH0.on hd8) (fun hH1 => ?_)
        clear hK K
        refine wpAnyH_ready (rs := [14]) (by kernel_rfl) (by simp) ?_
        refine AllReadyH.cons rfl (fun K hK => ?_) AllReadyH.nil
        go_simp
        go_at_call 30
        refine (r11bal_any _ E F D _ (hr.out.on hH1.hb) (by omega) (by omega) (by omega)).mono ?_
        rintro e w14 ⟨rfl, hd14⟩
        go_wp2_with fail
        refine hK.out _ _ (hH1.on hd14) (fun hH2 => ?_)
        clear hK K
        refine wpAnyH_take (i := 15) (v := .bool false) rfl (by kernel_rfl) (by kernel_rfl) (by kernel_rfl) (fun _ _ _ h => h) (yk_bin (by kernel_rfl) _ _ _ _ _ rfl (.agg #[.int .u64 (limb (ng E (keyB F D)) 0), .int .u64 (limb (ng E (keyB F D)) 1), .int .u64 (limb (ng E (keyB F D)) 2), .int .u64 (limb (ng E (keyB F D)) 3)]) (.agg #[.int .u64 (limb (ng E (keyB F D)) 0), .int .u64 (limb (ng E (keyB F D)) 1), .int .u64 (limb (ng E (keyB F D)) 2), .int .u64 (limb (ng E (keyB F D)) 3)]) (by kernel_rfl) (by kernel_rfl) _ (fun w' hw' => by have h0 := eqWd (ng E (keyB F D)) w'; go_simp)) hH2 ?_
        refine wpAnyH_take (i := 16) (v := .bool false) rfl (by kernel_rfl) (by kernel_rfl) (by kernel_rfl) (fun _ _ _ h => h) (yk_pick (by kernel_rfl) _ _ _ rfl false (by kernel_rfl) _ (by kernel_rfl)) hH2 ?_
        refine wpAnyH_take (i := 17) (v := .bool false) rfl (by kernel_rfl) (by kernel_rfl) (by kernel_rfl) (fun _ _ _ h => h) (yk_move (by kernel_rfl) _ rfl _ (by kernel_rfl)) hH2 ?_
        refine wpAnyH_take (i := 18) (v := .agg #[.slice q E.length c]) rfl (by kernel_rfl) (by kernel_rfl) (by kernel_rfl) (fun _ _ _ h => h) (yk_load (by kernel_rfl) _ _ rfl (.pointer (some ⟨w1.heap.size, 0, none⟩)) (by kernel_rfl) _ (fun w' hw' => by have c0 := (hw'.bl _ (.head _)).cell 0; go_simp)) hH2 ?_
        refine wpAnyH_take (i := 19) (v := .pointer (some ⟨w2.heap.size, 2, none⟩)) rfl (by kernel_rfl) (by kernel_rfl) (by kernel_rfl) (fun _ _ _ h => h) (yk_faB (by kernel_rfl) _ _ _ rfl (.pointer (some ⟨w2.heap.size, 0, none⟩)) (by kernel_rfl) _ (fun w' hw' => by go_simp)) hH2 ?_
        refine wpAnyH_take (i := 20) (v := .string T) rfl (by kernel_rfl) (by kernel_rfl) (by kernel_rfl) (fun _ _ _ h => h) (yk_load (by kernel_rfl) _ _ rfl (.pointer (some ⟨w2.heap.size, 2, none⟩)) (by kernel_rfl) _ (fun w' hw' => by have c0 := (hw'.bl _ (.tail _ (.head _))).cell 2; go_simp)) hH2 ?_
        refine wpAnyH_take (i := 21) (v := .pointer (some ⟨w2.heap.size, 3, none⟩)) rfl (by kernel_rfl) (by kernel_rfl) (by kernel_rfl) (fun _ _ _ h => h) (yk_faB (by kernel_rfl) _ _ _ rfl (.pointer (some ⟨w2.heap.size, 0, none⟩)) (by kernel_rfl) _ (fun w' hw' => by go_simp)) hH2 ?_
        refine wpAnyH_take (i := 22) (v := .string D) rfl (by kernel_rfl) (by kernel_rfl) (by kernel_rfl) (fun _ _ _ h => h) (yk_load (by kernel_rfl) _ _ rfl (.pointer (some ⟨w2.heap.size, 3, none⟩)) (by kernel_rfl) _ (fun w' hw' => by have c0 := (hw'.bl _ (.tail _ (.head _))).cell 3; go_simp)) hH2 ?_
        refine wpAnyH_take (i := 24) (v := .slice q2 E.length c2) rfl (by kernel_rfl) (by kernel_rfl) (by kernel_rfl) (fun _ _ _ h => h) (yk_move (by kernel_rfl) _ rfl _ (by kernel_rfl)) hH2 ?_
        refine wpAnyH_take (i := 25) (v := .pointer (some ⟨w2.heap.size, 2, none⟩)) rfl (by kernel_rfl) (by kernel_rfl) (by kernel_rfl) (fun _ _ _ h => h) (yk_faB (by kernel_rfl) _ _ _ rfl (.pointer (some ⟨w2.heap.size, 0, none⟩)) (by kernel_rfl) _ (fun w' hw' => by go_simp)) hH2 ?_
        refine wpAnyH_take (i := 26) (v := .string T) rfl (by kernel_rfl) (by kernel_rfl) (by kernel_rfl) (fun _ _ _ h => h) (yk_load (by kernel_rfl) _ _ rfl (.pointer (some ⟨w2.heap.size, 2, none⟩)) (by kernel_rfl) _ (fun w' hw' => by have c0 := (hw'.bl _ (.tail _ (.head _))).cell 2; go_simp)) hH2 ?_
        refine wpAnyH_take (i := 27) (v := .pointer (some ⟨w2.heap.size, 3, none⟩)) rfl (by kernel_rfl) (by kernel_rfl) (by kernel_rfl) (fun _ _ _ h => h) (yk_faB (by kernel_rfl) _ _ _ rfl (.pointer (some ⟨w2.heap.size, 0, none⟩)) (by kernel_rfl) _ (fun w' hw' => by go_simp)) hH2 ?_
        refine wpAnyH_take (i := 28) (v := .string D) rfl (by kernel_rfl) (by kernel_rfl) (by kernel_rfl) (fun _ _ _ h => h) (yk_load (by kernel_rfl) _ _ rfl (.pointer (some ⟨w2.heap.size, 3, none⟩)) (by kernel_rfl) _ (fun w' hw' => by have c0 := (hw'.bl _ (.tail _ (.head _))).cell 3; go_simp)) hH2 ?_
        refine wpAnyH_ready (rs := [23]) (by kernel_rfl) (by simp) ?_
        refine AllReadyH.cons rfl (fun K hK => ?_) AllReadyH.nil
        go_simp
        go_at_call 23
        refine (bbal_any _ E T D _ (hd.out.on hH2.hb) hs.out (by omega) (by omega) (by omega)).mono ?_
        rintro e w23 ⟨rfl, hd23⟩
        go_wp2_with fail
        refine hK.out _ _ (hH2.on hd23) (fun hH3 => ?_)
        clear hK K
        refine wpAnyH_ready (rs := [29]) (by kernel_rfl) (by simp) ?_
        refine AllReadyH.cons rfl (fun K hK => ?_) AllReadyH.nil
        go_simp
        go_at_call 30
        refine (r11bal_any _ E T D _ (hr.out.on hH3.hb) (by omega) (by omega) (by omega)).mono ?_
        rintro e w29 ⟨rfl, hd29⟩
        go_wp2_with fail
        refine hK.out _ _ (hH3.on hd29) (fun hH4 => ?_)
        clear hK K
        refine wpAnyH_take (i := 30) (v := .bool false) rfl (by kernel_rfl) (by kernel_rfl) (by kernel_rfl) (fun _ _ _ h => h) (yk_bin (by kernel_rfl) _ _ _ _ _ rfl (.agg #[.int .u64 (limb (ng E (keyB T D)) 0), .int .u64 (limb (ng E (keyB T D)) 1), .int .u64 (limb (ng E (keyB T D)) 2), .int .u64 (limb (ng E (keyB T D)) 3)]) (.agg #[.int .u64 (limb (ng E (keyB T D)) 0), .int .u64 (limb (ng E (keyB T D)) 1), .int .u64 (limb (ng E (keyB T D)) 2), .int .u64 (limb (ng E (keyB T D)) 3)]) (by kernel_rfl) (by kernel_rfl) _ (fun w' hw' => by have h0 := eqWd (ng E (keyB T D)) w'; go_simp)) hH4 ?_
        refine wpAnyH_take (i := 31) (v := .bool false) rfl (by kernel_rfl) (by kernel_rfl) (by kernel_rfl) (fun _ _ _ h => h) (yk_pick (by kernel_rfl) _ _ _ rfl false (by kernel_rfl) _ (by kernel_rfl)) hH4 ?_
        refine wpAnyH_take (i := 32) (v := .bool false) rfl (by kernel_rfl) (by kernel_rfl) (by kernel_rfl) (fun _ _ _ h => h) (yk_move (by kernel_rfl) _ rfl _ (by kernel_rfl)) hH4 ?_
        refine wpAnyH_take (i := 33) (v := .agg #[.slice q E.length c]) rfl (by kernel_rfl) (by kernel_rfl) (by kernel_rfl) (fun _ _ _ h => h) (yk_load (by kernel_rfl) _ _ rfl (.pointer (some ⟨w1.heap.size, 0, none⟩)) (by kernel_rfl) _ (fun w' hw' => by have c0 := (hw'.bl _ (.head _)).cell 0; go_simp)) hH4 ?_
        refine wpAnyH_take (i := 34) (v := .pointer (some ⟨w2.heap.size, 3, none⟩)) rfl (by kernel_rfl) (by kernel_rfl) (by kernel_rfl) (fun _ _ _ h => h) (yk_faB (by kernel_rfl) _ _ _ rfl (.pointer (some ⟨w2.heap.size, 0, none⟩)) (by kernel_rfl) _ (fun w' hw' => by go_simp)) hH4 ?_
        refine wpAnyH_take (i := 35) (v := .string D) rfl (by kernel_rfl) (by kernel_rfl) (by kernel_rfl) (fun _ _ _ h => h) (yk_load (by kernel_rfl) _ _ rfl (.pointer (some ⟨w2.heap.size, 3, none⟩)) (by kernel_rfl) _ (fun w' hw' => by have c0 := (hw'.bl _ (.tail _ (.head _))).cell 3; go_simp)) hH4 ?_
        refine wpAnyH_take (i := 37) (v := .slice q2 E.length c2) rfl (by kernel_rfl) (by kernel_rfl) (by kernel_rfl) (fun _ _ _ h => h) (yk_move (by kernel_rfl) _ rfl _ (by kernel_rfl)) hH4 ?_
        refine wpAnyH_take (i := 38) (v := .pointer (some ⟨w2.heap.size, 3, none⟩)) rfl (by kernel_rfl) (by kernel_rfl) (by kernel_rfl) (fun _ _ _ h => h) (yk_faB (by kernel_rfl) _ _ _ rfl (.pointer (some ⟨w2.heap.size, 0, none⟩)) (by kernel_rfl) _ (fun w' hw' => by go_simp)) hH4 ?_
        refine wpAnyH_take (i := 39) (v := .string D) rfl (by kernel_rfl) (by kernel_rfl) (by kernel_rfl) (fun _ _ _ h => h) (yk_load (by kernel_rfl) _ _ rfl (.pointer (some ⟨w2.heap.size, 3, none⟩)) (by kernel_rfl) _ (fun w' hw' => by have c0 := (hw'.bl _ (.tail _ (.head _))).cell 3; go_simp)) hH4 ?_
        refine wpAnyH_ready (rs := [36]) (by kernel_rfl) (by simp) ?_
        refine AllReadyH.cons rfl (fun K hK => ?_) AllReadyH.nil
        go_simp
        go_at_call 24
        refine (bsup_any _ E D _ (hd.out.on hH4.hb) hs.out (by omega) (by omega)).mono ?_
        rintro e w36 ⟨rfl, hd36⟩
        go_wp2_with fail
        refine hK.out _ _ (hH4.on hd36) (fun hH5 => ?_)
        clear hK K
        refine wpAnyH_ready (rs := [40]) (by kernel_rfl) (by simp) ?_
        refine AllReadyH.cons rfl (fun K hK => ?_) AllReadyH.nil
        go_simp
        go_at_call 31
        refine (r11sup_any _ E D _ (hr.out.on hH5.hb) (by omega) (by omega)).mono ?_
        rintro e w40 ⟨rfl, hd40⟩
        go_wp2_with fail
        refine hK.out _ _ (hH5.on hd40) (fun hH6 => ?_)
        clear hK K
        refine wpAnyH_take (i := 41) (v := .bool false) rfl (by kernel_rfl) (by kernel_rfl) (by kernel_rfl) (fun _ _ _ h => h) (yk_bin (by kernel_rfl) _ _ _ _ _ rfl (.agg #[.int .u64 (limb (ng E (totB D)) 0), .int .u64 (limb (ng E (totB D)) 1), .int .u64 (limb (ng E (totB D)) 2), .int .u64 (limb (ng E (totB D)) 3)]) (.agg #[.int .u64 (limb (ng E (totB D)) 0), .int .u64 (limb (ng E (totB D)) 1), .int .u64 (limb (ng E (totB D)) 2), .int .u64 (limb (ng E (totB D)) 3)]) (by kernel_rfl) (by kernel_rfl) _ (fun w' hw' => by have h0 := eqWd (ng E (totB D)) w'; go_simp)) hH6 ?_
        refine wpAnyH_take (i := 42) (v := .bool false) rfl (by kernel_rfl) (by kernel_rfl) (by kernel_rfl) (fun _ _ _ h => h) (yk_pick (by kernel_rfl) _ _ _ rfl false (by kernel_rfl) _ (by kernel_rfl)) hH6 ?_
        refine wpAnyH_done (by kernel_rfl) ?_ _
        have hbz := hH6.hb
        have kdz := hH6.bl _ (.head _)
        go_wp2_with fail
        go_roundw
        case rel => exact ⟨k + 1, q, c, q2, c2, E, by omega, by omega, by go_num, rfl, hs, by omega, Lib.hid (hd.out.on hbz), Lib.hid (hr.out.on hbz), kdz, BW_on hb hbz⟩
        case measure => simp [intOf]; omega
    · by_cases h1 : k < L.length
      · have hk1 : (k : Int) < (L.length : Int) := by omega
        obtain rfl : k = 30 := by omega
        clear hlt
        go_wp2_with fail
        go_ret
        exact ⟨rfl, hb⟩
      · have hk1 : ¬ (k : Int) < (L.length : Int) := by omega
        clear hlt
        go_wp2_with fail
        go_ret
        exact ⟨rfl, hb⟩
end
set_option maxRecDepth 100000 in
theorem l11plays_lifted (os : Os) (started : os.Started) (H : Type) (enc : TypeId × Value → H) :
    ReturnsInHanded {} Try.checked os 5 .any (Rows.bankPlaysSpec.pre6 enc Try.prog Try.f5 Rows.bankPlaysRow.domain false) (Rows.bankPlaysSpec.post enc Try.prog Try.f5 false true false false) := by
  refine law_lifted (C := Try.checked) (tb := 4) (by kernel_rfl) started (by kernel_rfl) Try.func5
    (ChangeSpec.witness6 (enc := enc) (C := Try.checked) false ⟨#[], #[.slice none 0 0], []⟩ 8 (by kernel_rfl) (by kernel_rfl) (by kernel_rfl) (by kernel_rfl))
    (by kernel_rfl) (by kernel_rfl) (by kernel_rfl) Try.underlying4 rfl ?_ ?_
  · intro ds hd
    have hp : Try.f5.params.toList.length = 1 := by kernel_rfl
    rw [hp] at hd
    match ds, hd with
    | [d], _ => rfl
  · intro W base args ds ps hval hA _ _
    have hval' : ∀ (j : Nat) t v, Try.f5.params[j]? = some t → args[j]? = some v → Value.okWide Try.prog W .any base t v := hval
    have hA' : DataW.TrodAll enc Try.prog W 0 (fun _ => true) true Try.f5.params.toList args.toList ds ps := hA
    rw [Try.params5] at hA' hval'
    obtain ⟨v0, d0, rfl, rfl, h0⟩ := trodAll_one hA'
    obtain ⟨q, cap, L, rfl, hL, hop⟩ := open_op11s (hval' 0 50 v0 rfl rfl) h0
    exact l11plays_any q cap L W hL (Lib.hid hop)
theorem BankPlays_holds : Rows.BankPlaysSaid :=
  OpenClaim.holds_of_wide 5 Try.f5 rfl rfl rfl rfl rfl rfl rfl ⟨rfl, rfl, rfl, rfl, rfl⟩ rfl rfl rfl rfl rfl (by kernel_rfl) Try.func5 (by kernel_rfl)
    (of_decide_eq_true (by kernel_rfl)) (by unfold Func.isWrapper; first | (rw [if_pos (by decide +kernel)]; kernel_rfl) | (rw [if_neg (by decide +kernel)]; exact ⟨rfl, rfl⟩))
    (fun os started H enc _ => l11plays_lifted os started H enc)
end Go.Proofs.Ytbimnfmjgmfijaa

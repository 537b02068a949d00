/- Contract of the hash: a text is written behind what was written. -/
import Derived.Test.YtbimnfmjgmfijaaDoorH2
import Derived.Lib.BufferWrite
import Derived.Deep.DeepCutAuto
namespace Go.Proofs.YtbimnfmjgmfijaaDoor
open Go.RowKit
attribute [local go_sem ↓] Go.wp_at_zero Go.wp_at_succ
def bysN (s : ByteArray) : List Nat := s.data.toList.map UInt8.toNat
theorem bysN_len (s : ByteArray) : (bysN s).length = s.size := by simp [bysN]
theorem bysN_lt (s : ByteArray) : ∀ b ∈ bysN s, b < 256 := by
  intro b hb
  simp only [bysN, List.mem_map] at hb
  obtain ⟨u, _, rfl⟩ := hb
  exact u.toNat_lt
theorem U8s_bysN (s : ByteArray) : U8s (bysN s) = Lib.byteCells s.data.toList := by simp [U8s, bysN, Lib.byteCells]
theorem bysN_extract (s : ByteArray) (i j : Nat) : bysN (s.extract i j) = ((bysN s).take j).drop i := by
  simp only [bysN, ByteArray.data_extract, Array.toList_extract, List.extract_eq_take_drop, List.map_take, List.map_drop, List.drop_take]
/-- copy into a row from a text: as much as fits. -/
theorem run_copy_str {P : Program} (w : World) (dT sT ty elem : TypeId) (g o dLen dCap k : Nat) (s : ByteArray) (cur : Array Value) (t : TypeId)
    (hu : P.underlying dT = some (.slice elem)) (hs : (P.info? elem).map (·.size) = some 1) (hg : w.heap[g]? = some (.cells cur t (0, 0))) (hk : k = Nat.min s.size dLen) (hfit : o + k ≤ cur.size) :
    (Builtin.copy_ #[dT, sT] ty #[.slice (some ⟨g, o, none⟩) dLen dCap, .string s]).run P w =
      .ok (goInt k) (w.setRow g (cur.toList.take o ++ (Lib.byteCells s.data.toList).take k ++ cur.toList.drop (o + k)).toArray) := by
  have hlen : ((Lib.byteCells s.data.toList).take k).length = k := by
    rw [List.length_take, Lib.byteCells_length, ← Lib.size_eq, hk]
    exact Nat.min_eq_left (Nat.min_le_left _ _)
  have hst := run_storeCells_at P g o t ((Lib.byteCells s.data.toList).take k) 0 cur w hg (by rw [hlen]; simpa using hfit) (fun v hv => Lib.byteCells_one _ v (List.mem_of_mem_take hv))
  have htk : List.take k (List.map (fun b : UInt8 => Value.int IntKind.u8 (b.toNat : Int)) s.data.toList) = (Lib.byteCells s.data.toList).take k := rfl
  rw [hlen] at hst
  simp only [Nat.add_zero] at hst
  cases hq : P.info? elem with
  | none => simp [hq] at hs
  | some i =>
    simp [Builtin.copy_, run_underlying hu, Builtin.lenOf, Builtin.firstCells, sizeOf, typeInfo, hq, ← hk]
    simp only [← List.map_take] at *
    rw [htk, hst]
    simp [Result.andThen]
theorem slice_from (g a : Nat) (ha : a < 64) (w : World) :
    (Instr.sliceAt 100 (.pointer (some ⟨g, 8, none⟩)) (some (.int .i64 (a : Int))) none none).run Tryd.prog w = .ok (.slice (some ⟨g, 8 + a, none⟩) (64 - a) (64 - a)) w := by
  have h := run_sliceAt_array_l (P := Tryd.prog) w 100 ⟨g, 8, none⟩ und64 .i64 (a : Int) (by omega) (by rw [len64]; omega)
  have hs : (sizeOf (Tryd.prog.elem 100)).run Tryd.prog w = .ok 1 w := by kernel_rfl
  rw [h, hs]
  simp only [Result.andThen, slicedAt, len64, Int.toNat_natCast]
  rw [if_neg (by omega), addr_add, Nat.mul_one]
def blks (K Bg : List Int) (M : List Nat) : Nat → List Int
  | 0 => Bg
  | n + 1 => comp K (blks K Bg M n) ((M.drop (64 * n)).take 64)
theorem blks_len (K Bg : List Int) (hBg : Bg.length = 8) (M : List Nat) (n : Nat) : (blks K Bg M n).length = 8 := by
  induction n with
  | zero => exact hBg
  | succ n ih => show (comp K _ _).length = 8; unfold comp; rw [List.length_zipWith, ih]; rfl
theorem blks_app (K Bg : List Int) (M N : List Nat) (n : Nat) (h : 64 * n ≤ M.length) : blks K Bg (M ++ N) n = blks K Bg M n := by
  induction n with
  | zero => rfl
  | succ n ih =>
    show comp K _ _ = comp K _ _
    rw [ih (by omega), List.drop_append_of_le_length (by omega), List.take_append_of_le_length (by rw [List.length_drop]; omega)]
def HSt (K Bg : List Int) (w : World) (g : Nat) (M : List Nat) : Prop := ∃ B : List Nat, B.length = 64 ∧ (∀ i, B.getD i 0 < 256) ∧ B.take (M.length % 64) = M.drop (64 * (M.length / 64)) ∧ Blk w g 102 (hcs (blks K Bg M (M.length / 64)) B (M.length : Int) true)
theorem len_of {K Bg : List Int} {w : World} {g : Nat} {M : List Nat} (_ : HSt K Bg w g M) : True := trivial
theorem grown_trans {w w' w'' : World} {r : Option Nat} (h : w.grownBy w' r) (h2 : w'.grownBy w'' r) : w.grownBy w'' r :=
  ⟨h2.os.trans h.os, h2.tape.trans h.tape, h2.output.trans h.output, Nat.le_trans h.size h2.size, fun k hk hne => (h2.block k (Nat.lt_of_lt_of_le hk h.size) hne).trans (h.block k hk hne)⟩
theorem block_any (g : Nat) (X : List Int) (B : List Nat) (n0 : Int) (m : Bool) (K : List Int) (w : World) (hX : X.length = 8) (hB : B.length = 64) (hb8 : ∀ i, B.getD i 0 < 256) (kh : Blk w g 102 (hcs X B n0 m))
    (hK : ∀ i, i < 64 → w.cell? ⟨2, i, none⟩ = some (.int .u32 (K.getD i 0))) :
    Calls Tryd.prog 76 #[.pointer (some ⟨g, 0, none⟩)] w fun e w' => e = .returned (.tuple #[]) ∧ Blk w' g 102 (hcs (comp K X B) B n0 m) ∧ w.grownBy w' (some g) := by
  match X, hX with
  | [x0, x1, x2, x3, x4, x5, x6, x7], _ => exact block_words g x0 x1 x2 x3 x4 x5 x6 x7 B n0 m K w hB hb8 kh hK
theorem one_u8 : (Tryd.prog.info? 5).map (·.size) = some 1 := by kernel_rfl
theorem size_zero {t : ByteArray} (h : t.size = 0) : t = ⟨#[]⟩ := by
  apply ByteArray.ext
  exact Array.eq_empty_of_size_eq_zero h
theorem ne_nil {t : ByteArray} (h : ¬ t.size = 0) : (t.toList == ([] : List UInt8)) = false := by
  rw [beq_eq_false_iff_ne]
  intro e
  rw [ByteArray.toList_eq] at e
  have := congrArg List.length e
  rw [Array.length_toList] at this
  exact h this
theorem hcs_size {X : List Int} {B : List Nat} {n : Int} {m : Bool} (hX : X.length = 8) (hB : B.length = 64) : (hcs X B n m).size = 74 := by
  simp [hcs, U32, U8s, hX, hB]
theorem hcs_copy {X : List Int} {B : List Nat} {n : Int} {m : Bool} (hX : X.length = 8) (hB : B.length = 64) {a k : Nat} (h : a + k ≤ 64) {t : ByteArray} :
    ((hcs X B n m).toList.take (8 + a) ++ (Lib.byteCells t.data.toList).take k ++ (hcs X B n m).toList.drop (8 + a + k)).toArray = hcs X (B.take a ++ (bysN t).take k ++ B.drop (a + k)) n m := by
  have h8 : (U32 X).length = 8 := by simp [U32, hX]
  have h64 : (U8s B).length = 64 := by simp [U8s, hB]
  unfold hcs
  simp only [List.append_assoc]
  rw [List.take_append, List.drop_append, h8, show 8 + a - 8 = a by omega, show 8 + a + k - 8 = a + k by omega, List.take_of_length_le (by omega), List.drop_of_length_le (by omega), List.nil_append,
    List.take_append_of_le_length (by omega), List.drop_append_of_le_length (by omega), ← U8s_bysN]
  simp [U8s, List.map_take, List.map_drop]
theorem hcs_setn {X : List Int} {B : List Nat} {n n' : Int} {m : Bool} (hX : X.length = 8) (hB : B.length = 64) : (hcs X B n m).setIfInBounds 72 (.int .i64 n') = hcs X B n' m := by
  have h8 : (U32 X).length = 8 := by simp [U32, hX]
  have h64 : (U8s B).length = 64 := by simp [U8s, hB]
  unfold hcs
  apply Array.toList_inj.1
  rw [Array.toList_setIfInBounds]
  show ((U32 X ++ U8s B) ++ [Value.int .i64 n, Value.bool m]).set 72 _ = (U32 X ++ U8s B) ++ [Value.int .i64 n', Value.bool m]
  rw [List.set_append_right _ _ (by rw [List.length_append]; omega), List.length_append, h8, h64]
  rfl
theorem grown_row {w w' : World} {g : Nat} (h : w.grownBy w' (some g)) (cs : Array Value) : w.grownBy (w'.setRow g cs) (some g) := by
  refine ⟨h.os, h.tape, h.output, ?_, fun k hk hne => ?_⟩
  · have := h.size
    simpa [World.setRow] using this
  · rw [← h.block k hk hne]
    have hgk : ¬ g = k := fun e => hne (by rw [e])
    simp [World.setRow, Array.getElem?_modify, hgk]
/-- What writing k bytes makes of what a hasher holds. -/
theorem HSt_step (K Bg : List Int) (N : List Nat) (t : ByteArray) (B : List Nat) (k : Nat) (hB : B.length = 64) (hB8 : ∀ i, B.getD i 0 < 256) (hBt : B.take (N.length % 64) = N.drop (64 * (N.length / 64))) (hk : k ≤ t.size) (hk2 : k ≤ 64 - N.length % 64) :
    (∀ i, (B.take (N.length % 64) ++ (bysN t).take k ++ B.drop (N.length % 64 + k)).getD i 0 < 256) ∧
    (N.length % 64 + k < 64 → ∀ w g, Blk w g 102 (hcs (blks K Bg N (N.length / 64)) (B.take (N.length % 64) ++ (bysN t).take k ++ B.drop (N.length % 64 + k)) ((N.length + k : Nat) : Int) true) → HSt K Bg w g (N ++ (bysN t).take k)) ∧
    (N.length % 64 + k = 64 → ∀ w g, Blk w g 102 (hcs (comp K (blks K Bg N (N.length / 64)) (B.take (N.length % 64) ++ (bysN t).take k ++ B.drop (N.length % 64 + k))) (B.take (N.length % 64) ++ (bysN t).take k ++ B.drop (N.length % 64 + k)) ((N.length + k : Nat) : Int) true) → HSt K Bg w g (N ++ (bysN t).take k)) := by
  have hkl : ((bysN t).take k).length = k := by rw [List.length_take, bysN_len]; exact Nat.min_eq_left hk
  have hlen : (N ++ (bysN t).take k).length = N.length + k := by rw [List.length_append, hkl]
  have hal : (B.take (N.length % 64)).length = N.length % 64 := by rw [List.length_take, hB]; omega
  have hl2 : (B.take (N.length % 64) ++ (bysN t).take k ++ B.drop (N.length % 64 + k)).length = 64 := by
    rw [List.length_append, List.length_append, hal, hkl, List.length_drop, hB]; omega
  have hb : ∀ i, (B.take (N.length % 64) ++ (bysN t).take k ++ B.drop (N.length % 64 + k)).getD i 0 < 256 := by
    intro i
    rw [List.getD_eq_getElem?_getD]
    cases hi : (B.take (N.length % 64) ++ (bysN t).take k ++ B.drop (N.length % 64 + k))[i]? with
    | none => decide
    | some b =>
      have hm := List.mem_of_getElem? hi
      have hBm : ∀ x ∈ B, x < 256 := fun x hx => by
        obtain ⟨j, hj, rfl⟩ := List.mem_iff_getElem.1 hx
        have := hB8 j
        rwa [List.getD_eq_getElem?_getD, List.getElem?_eq_getElem hj] at this
      rcases List.mem_append.1 hm with hm | hm
      · rcases List.mem_append.1 hm with hm | hm
        · exact hBm _ (List.mem_of_mem_take hm)
        · exact bysN_lt t _ (List.mem_of_mem_take hm)
      · exact hBm _ (List.mem_of_mem_drop hm)
  have hdrop : (N ++ (bysN t).take k).drop (64 * (N.length / 64)) = B.take (N.length % 64) ++ (bysN t).take k := by
    rw [List.drop_append_of_le_length (by omega), hBt]
  refine ⟨hb, fun h w g kb => ?_, fun h w g kb => ?_⟩
  · have e1 : (N.length + k) / 64 = N.length / 64 := by omega
    have e2 : (N.length + k) % 64 = N.length % 64 + k := by omega
    refine ⟨_, hl2, hb, ?_, ?_⟩
    · rw [hlen, e1, e2, hdrop, List.take_append_of_le_length (by rw [List.length_append, hal, hkl]; exact Nat.le_refl _), List.take_of_length_le (by rw [List.length_append, hal, hkl]; exact Nat.le_refl _)]
    · rw [hlen, e1, blks_app K Bg N _ _ (by omega)]
      exact kb
  · have e1 : (N.length + k) / 64 = N.length / 64 + 1 := by omega
    have e2 : (N.length + k) % 64 = 0 := by omega
    refine ⟨_, hl2, hb, ?_, ?_⟩
    · rw [hlen, e1, e2, List.take_zero, List.drop_of_length_le (by rw [hlen]; omega)]
    · rw [hlen, e1]
      show Blk w g _ (hcs (comp K (blks K Bg (N ++ (bysN t).take k) (N.length / 64)) (((N ++ (bysN t).take k).drop (64 * (N.length / 64))).take 64)) _ _ true)
      rw [blks_app K Bg N _ _ (by omega), hdrop, List.take_of_length_le (by rw [List.length_append, hal, hkl]; omega)]
      have hd : B.drop (N.length % 64 + k) = [] := List.drop_of_length_le (by omega)
      rw [hd, List.append_nil] at kb ⊢
      exact kb
def strOf : Value → Nat
  | .string s => s.size
  | _ => 0
set_option maxHeartbeats 4000000 in
set_option maxRecDepth 100000 in
theorem write_any (g : Nat) (K Bg : List Int) (M : List Nat) (s : ByteArray) (w : World) (hBg : Hid (Bg.length = 8)) (hg : Hid (HSt K Bg w g M)) (hlen : M.length + s.size ≤ 1152921504606846976)
    (hg1 : 2 < g) (hK : Hid (∀ i, i < 64 → w.cell? ⟨2, i, none⟩ = some (.int .u32 (K.getD i 0)))) :
    Calls Tryd.prog 69 #[.pointer (some ⟨g, 0, none⟩), .string s] w fun e w' => e = .returned (.tuple #[]) ∧ HSt K Bg w' g (M ++ bysN s) ∧ w.grownBy w' (some g) := by
  have hm := len_of hg.out
  go_enter Tryd.func69, Tryd.ntmps69
  clear hm
  obtain ⟨B, hB, hB8, hBt, kh⟩ := hg.out
  have hX := blks_len K Bg hBg.out M (M.length / 64)
  have cm := (kh.cell 73).trans (hcs_m hX hB)
  clear kh hX hBt hB8 hB
  go_wp2_with fail
  clear cm
  go_loopw [1] (fun u wi => ∃ (t : ByteArray) (N : List Nat), u = .string t ∧ Hid (HSt K Bg wi g N) ∧ Hid (N ++ bysN t = M ++ bysN s) ∧ Hid (w.grownBy wi (some g)) ∧ N.length + t.size ≤ 1152921504606846976) (fun u _ => strOf u)
  case atStart => exact ⟨s, M, rfl, hg, rfl, World.grownBy.refl _ _, hlen⟩
  case round =>
    obtain ⟨t, N, rfl, hN, hMN, hgr, hnl⟩ := hrel
    by_cases ht : t.size = 0
    · obtain rfl := size_zero ht
      have hMN2 := hMN.out
      rw [show bysN ⟨#[]⟩ = [] from rfl, List.append_nil] at hMN2
      have HMN2 := Lib.hid hMN2
      clear hMN2
      go_wp2_with fail
      refine bodyPost_end (v := .tuple #[]) (results_none (by rfl) _ _ _) rfl ⟨rfl, by rw [← HMN2.out]; exact hN.out, hgr.out⟩
    · obtain ⟨B, hB, hB8, hBt, kh⟩ := hN.out
      have hX := blks_len K Bg hBg.out N (N.length / 64)
      have hmod : (N.length : Int).tmod 64 = ((N.length % 64 : Nat) : Int) := by rw [Int.tmod_eq_emod_of_nonneg (by omega)]; omega
      have hal : N.length % 64 < 64 := Nat.mod_lt _ (by decide)
      have hstep := fun k => HSt_step K Bg N t B k hB hB8 hBt
      have cn := (kh.cell 72).trans (hcs_n hX hB)
      clear hBt
      generalize N.length % 64 = a at *
      generalize blks K Bg N (N.length / 64) = X at *
      obtain ⟨k, hk⟩ : ∃ k, k = Nat.min t.size (64 - a) := ⟨_, rfl⟩
      have hkle : k ≤ t.size := by rw [hk]; exact Nat.min_le_left _ _
      have hkle2 : k ≤ 64 - a := by rw [hk]; exact Nat.min_le_right _ _
      have hk0 : 0 < k := by rw [hk]; exact Nat.lt_min.2 ⟨by omega, by omega⟩
      have Hstep := Lib.hid (hstep k hkle hkle2)
      have hsl := slice_from g a hal
      have hcp := run_copy_str (P := Tryd.prog) wr 37 9 3 5 g (8 + a) (64 - a) (64 - a) k t _ 102 Tryd.underlying37 one_u8 kh hk (by rw [hcs_size hX hB]; omega)
      rw [hcs_copy hX hB (by omega)] at hcp
      have hB2 : (List.take a B ++ (bysN t).take k ++ B.drop (a + k)).length = 64 := by
        rw [List.length_append, List.length_append, List.length_take, List.length_take, List.length_drop, hB, bysN_len, Nat.min_eq_left (by omega), Nat.min_eq_left hkle]; omega
      generalize List.take a B ++ (bysN t).take k ++ B.drop (a + k) = B2 at *
      have kv : Blk (wr.setRow g (hcs X B2 (N.length : Int) true)) g 102 (hcs X B2 (N.length : Int) true) := setRow_heap wr g _ _ 102 _ kh
      have hgv := Lib.hid (grown_row hgr.out (hcs X B2 (N.length : Int) true))
      generalize wr.setRow g (hcs X B2 (N.length : Int) true) = V at *
      have cv := (kv.cell 72).trans (hcs_n hX hB2)
      have fv := kv.free 72
      have hw64 : wrap64 ((N.length : Int) + (k : Int)) = (N.length : Int) + (k : Int) := by unfold wrap64; omega
      clear hstep
      have hki : (k : Int) ≤ (t.size : Int) := by omega
      have hte := ne_nil ht
      have Hk := Lib.hid hk
      have HB2 := Lib.hid hB2
      have HX := Lib.hid hX
      have hext := bysN_extract t k t.size
      rw [List.take_of_length_le (by rw [bysN_len]; exact Nat.le_refl _)] at hext
      have Hext := Lib.hid hext
      clear hk hB hB8 hB2 hX kh hext
      have hext2 : (t.extract k t.size).size = t.size - k := by simp
      have Hext2 := Lib.hid hext2
      clear hext2
      by_cases h64' : a + k = 64
      · have hq : ((a : Int) + (k : Int) == 64) = true := by simp; omega
        go_wp2_with fail
        clear cn cv fv hcp hsl
        have kset := kv.set_ 72 (.int .i64 ((N.length : Int) + (k : Int)))
        rw [hcs_setn HX.out HB2.out] at kset
        have hg2 := grown_set hgv.out 72 (.int .i64 ((N.length : Int) + (k : Int)))
        refine (block_any g X B2 _ true K _ HX.out HB2.out Hstep.out.1 kset (fun i hi => hg2.cell (hK.out i hi) (fun e => absurd (show 2 = g from Option.some.inj e) (by omega)))).mono ?_
        rintro e w3 ⟨rfl, kb, hg3⟩
        go_wp2_with fail
        go_roundw
        case rel => exact ⟨_, N ++ (bysN t).take k, rfl, Lib.hid (Hstep.out.2.2 h64' _ _ kb), Lib.hid (by rw [List.append_assoc, Hext.out, List.take_append_drop]; exact hMN.out), Lib.hid (grown_trans hg2 hg3), by rw [List.length_append, List.length_take, bysN_len, Nat.min_eq_left hkle, Hext2.out]; omega⟩
        case measure => show (t.extract k t.size).size < t.size; rw [Hext2.out]; omega
      · have hq : ((a : Int) + (k : Int) == 64) = false := by simp; omega
        have h65 : a + k < 64 := by omega
        go_wp2_with fail
        clear cn cv fv hcp hsl
        have kset := kv.set_ 72 (.int .i64 ((N.length : Int) + (k : Int)))
        rw [hcs_setn HX.out HB2.out] at kset
        have hg2 := grown_set hgv.out 72 (.int .i64 ((N.length : Int) + (k : Int)))
        go_roundw
        case rel => exact ⟨_, N ++ (bysN t).take k, rfl, Lib.hid (Hstep.out.2.1 h65 _ _ kset), Lib.hid (by rw [List.append_assoc, Hext.out, List.take_append_drop]; exact hMN.out), Lib.hid hg2, by rw [List.length_append, List.length_take, bysN_len, Nat.min_eq_left hkle, Hext2.out]; omega⟩
        case measure => show (t.extract k t.size).size < t.size; rw [Hext2.out]; omega
end Go.Proofs.YtbimnfmjgmfijaaDoor

/- Pa, Pb, Pc, Pd, Pe in one text. -/
import Derived.Test.YtpcdgljcpacpiaaGreatDoorMT
import Derived.Test.YtpcdgljcpacpiaaGreatDoorMH
import Derived.Lib.ConvBytes
namespace Go.Proofs.YtpcdgljcpacpiaaGreatDoor
open Go.RowKit
attribute [local go_sem ↓] Go.wp_at_zero Go.wp_at_succ
def hd4 (c n : Nat) : List Nat := [c, n / 65536 % 256, n / 256 % 256, n % 256]
/-- A body: its letter, its length in three bytes, the text. -/
def tlvT (c : Nat) (l : List Nat) : List Nat := hd4 c l.length ++ l
/-- A number's bytes, the greatest first, none for 0. -/
def digB (n : Nat) : List Nat := if _h : n = 0 then [] else digB (n / 256) ++ [n % 256]
termination_by n
decreasing_by omega
theorem digB_zero : digB 0 = [] := by rw [digB]; simp
theorem digB_pos {n : Nat} (h : n ≠ 0) : digB n = digB (n / 256) ++ [n % 256] := by rw [digB]; simp [h]
theorem u8L_bys {l : List Nat} (h : ∀ x ∈ l, x < 256) : bysN ⟨(l.map UInt8.ofNat).toArray⟩ = l := by
  unfold bysN
  simp only [List.map_map]
  conv => rhs; rw [← List.map_id l]
  refine List.map_congr_left fun x hx => ?_
  show (UInt8.ofNat x).toNat = x
  rw [UInt8.toNat_ofNat_of_lt' (by show x < 256; exact h x hx)]
theorem conv_row (w : World) (g cap : Nat) (l : List Nat) (h : ∀ x ∈ l, x < 256) (hc : ∀ (j x : Nat), l[j]? = some x → w.cell? ⟨g, j, none⟩ = some (.int .u8 (x : Int))) :
    (convert 56 9 (.slice (some ⟨g, 0, none⟩) l.length cap)).run Tryz.prog w = .ok (.string ⟨(l.map UInt8.ofNat).toArray⟩) w := by
  have := run_convert_bytes_back (P := Tryz.prog) w 56 9 5 ⟨g, 0, none⟩ cap (l.map UInt8.ofNat) Tryz.underlying56 Tryz.underlying5 Tryz.underlying9 (fun j hj => by
    have e1 : (⟨g, 0, none⟩ : Addr).add j = ⟨g, j, none⟩ := by unfold Addr.add; split <;> simp_all
    rw [List.length_map] at hj
    have hx := h l[j] (List.getElem_mem _)
    rw [e1, hc j _ (List.getElem?_eq_getElem hj), List.getElem_map, UInt8.toNat_ofNat_of_lt' (by show l[j] < 256; exact hx)])
  rwa [List.length_map] at this
theorem heads_any (c n : Nat) (w : World) : Calls Tryz.prog 113 #[.int .u8 (c : Int), .int .i64 (n : Int)] w fun e w' =>
    e = .returned (.agg #[.int .u8 (c : Int), .int .u8 ((n / 65536 % 256 : Nat) : Int), .int .u8 ((n / 256 % 256 : Nat) : Int), .int .u8 ((n % 256 : Nat) : Int)]) ∧ Below w.heap.size w w' := by
  have e1 : (n : Int) / 65536 % 256 = ((n / 65536 % 256 : Nat) : Int) := by omega
  have e2 : (n : Int) / 256 % 256 = ((n / 256 % 256 : Nat) : Int) := by omega
  have e3 : (n : Int) % 256 = ((n % 256 : Nat) : Int) := by omega
  generalize n / 65536 % 256 = x1 at *
  generalize n / 256 % 256 = x2 at *
  generalize n % 256 = x3 at *
  go_enter Tryz.func113, Tryz.ntmps113
  go_wp2
  refine bodyPost_ret (v := .agg #[.int .u8 (c : Int), .int .u8 (x1 : Int), .int .u8 (x2 : Int), .int .u8 (x3 : Int)]) (by simp [results, Tryz.results113, go_sem]) rfl ⟨rfl, BW_alloc (BW_refl w) _⟩
set_option maxRecDepth 100000 in
theorem ttext_any (c : Nat) (s : ByteArray) (w : World) (hc : c < 256) (hs : s.size ≤ 1000000) :
    Calls Tryz.prog 96 #[.int .u8 (c : Int), .string s] w fun e w' => ∃ t, e = .returned (.string t) ∧ bysN t = tlvT c (bysN s) ∧ Below w.heap.size w w' := by
  have hmin : min (s.size : Int) 16777215 = (s.size : Int) := by omega
  have hex : s.extract 0 s.size = s := bysN_inj (by rw [bysN_extract, List.drop_zero, List.take_of_length_le (by rw [bysN_len]; exact Nat.le_refl _)])
  have htl : Hid (tlvT c (bysN s) = [c, s.size / 65536 % 256, s.size / 256 % 256, s.size % 256] ++ bysN s) := Lib.hid (by unfold tlvT hd4; rw [bysN_len])
  have hlt : ∀ x ∈ [c, s.size / 65536 % 256, s.size / 256 % 256, s.size % 256], x < 256 := by
    intro x hx
    simp only [List.mem_cons, List.not_mem_nil, or_false] at hx
    omega
  have Hlt := Lib.hid hlt
  go_enter Tryz.func96, Tryz.ntmps96
  go_wp2_with fail
  refine (heads_any c s.size _).mono ?_
  rintro e w1 ⟨rfl, hb1⟩
  generalize s.size / 65536 % 256 = x1 at *
  generalize s.size / 256 % 256 = x2 at *
  generalize s.size % 256 = x3 at *
  have k4 := blk1 w1 124 #[.int .u8 (c : Int), .int .u8 (x1 : Int), .int .u8 (x2 : Int), .int .u8 (x3 : Int)]
  have hcv := conv_row _ w1.heap.size 4 [c, x1, x2, x3] Hlt.out (fun j x hx => by
    rw [k4.cell j]
    match j with
    | 0 => cases hx; rfl
    | 1 => cases hx; rfl
    | 2 => cases hx; rfl
    | 3 => cases hx; rfl
    | j + 4 => cases hx)
  obtain ⟨h4, hh4⟩ : ∃ h4 : ByteArray, (⟨([c, x1, x2, x3].map UInt8.ofNat).toArray⟩ : ByteArray) = h4 := ⟨_, rfl⟩
  have hbh : bysN h4 = [c, x1, x2, x3] := by rw [← hh4]; exact u8L_bys Hlt.out
  have hz4 : h4.size = 4 := by rw [← bysN_len, hbh]; rfl
  rw [hh4] at hcv
  have hcv' : (convert 56 9 (.slice (some ⟨w1.heap.size, 0, none⟩) 4 4)).run Tryz.prog _ = .ok (.string h4) _ := hcv
  obtain ⟨t, ht, hadd⟩ := cat_big h4 s (by omega)
  have HT : Hid (bysN t = tlvT c (bysN s)) := Lib.hid (by rw [ht, hbh, htl.out])
  clear hcv hh4 hbh ht k4 hlt
  go_wp2
  go_ret
  exact ⟨_, rfl, HT.out, BW_alloc hb1 _⟩
end Go.Proofs.YtpcdgljcpacpiaaGreatDoor
namespace Go.Proofs.YtpcdgljcpacpiaaGreatDoor
open Go.RowKit
attribute [local go_sem ↓] Go.wp_at_zero Go.wp_at_succ
attribute [local go_sem] conv_f1
theorem infoB1 : (Tryz.prog.info? 5).map (fun i => (i.zero, i.size, i.bytes)) = some (some (.int .u8 0), 1, 1) := by kernel_rfl
def u8V (l : List Nat) : List Value := l.map fun (x : Nat) => .int .u8 (x : Int)
theorem own2.sl {w : World} {base n : Nat} {e : TypeId} {v : Value} {xs : List Value} (h : own2 w base e v n xs) : ∃ p cap, v = .slice p n cap := by
  rcases h with ⟨rfl, rfl, _⟩ | h
  · exact ⟨_, _, rfl⟩
  · obtain ⟨g, cap, rfl, _⟩ := h.form
    exact ⟨_, _, rfl⟩
theorem conv_own2 {w : World} {base : Nat} {v : Value} {l : List Nat} (h : own2 w base 5 v l.length (u8V l)) (hl : ∀ x ∈ l, x < 256) : ∃ t, bysN t = l ∧ (convert 56 9 v).run Tryz.prog w = .ok (.string t) w := by
  rcases h with ⟨rfl, h0, _⟩ | h
  · have e := List.eq_nil_of_length_eq_zero h0
    subst e
    exact ⟨ByteArray.empty, rfl, run_convert_bytes_nil w 56 5 Tryz.underlying56 Tryz.underlying5 0 0 9 Tryz.underlying9⟩
  · obtain ⟨g, cap, rfl, _, _, _, _, hc⟩ := h.form
    exact ⟨_, u8L_bys hl, conv_row w g cap l hl (fun j x hx => hc j _ (by unfold u8V; rw [List.getElem?_map, hx]; rfl))⟩
theorem digB_lt (n : Nat) : ∀ x ∈ digB n, x < 256 := by
  induction n using Nat.strongRecOn with
  | ind n ih =>
    intro x hx
    by_cases h : n = 0
    · rw [h, digB_zero] at hx; cases hx
    · rw [digB_pos h] at hx
      rcases List.mem_append.1 hx with hx | hx
      · exact ih (n / 256) (by omega) x hx
      · simp at hx; omega
theorem digB_len (k : Nat) : ∀ n, n < 256 ^ k → (digB n).length ≤ k := by
  induction k with
  | zero => intro n h; have : n = 0 := by omega
            rw [this, digB_zero]; simp
  | succ k ih =>
    intro n h
    by_cases h0 : n = 0
    · rw [h0, digB_zero]; simp
    · rw [digB_pos h0, List.length_append, List.length_singleton]
      have := ih (n / 256) (by rw [Nat.pow_succ] at h; omega)
      omega
theorem digB_ne {n : Nat} (h : n ≠ 0) : 0 < (digB n).length := by rw [digB_pos h, List.length_append]; simp
/-- A number's body, none below 0. -/
def tlvI (c : Nat) (n : Int) : List Nat := tlvT c (digB n.toNat)
end Go.Proofs.YtpcdgljcpacpiaaGreatDoor
namespace Go.Proofs.YtpcdgljcpacpiaaGreatDoor
open Go.RowKit
attribute [local go_sem ↓] Go.wp_at_zero Go.wp_at_succ
attribute [local go_sem] conv_f1
set_option maxHeartbeats 4000000 in
set_option maxRecDepth 100000 in
theorem r1text_any (c : Nat) (s : ByteArray) (w : World) (hc : c < 256) (hs : s.size ≤ 1000000) :
    Calls Tryz.prog 79 #[.int .u8 (c : Int), .string s] w fun e w' => ∃ t, e = .returned (.string t) ∧ bysN t = tlvT c (bysN s) ∧ Below w.heap.size w w' := by
  have hmin : (s.size : Int) ≤ 16777215 := by omega
  have htl : Hid (tlvT c (bysN s) = [c, s.size / 65536 % 256, s.size / 256 % 256, s.size % 256] ++ bysN s) := Lib.hid (by unfold tlvT hd4; rw [bysN_len])
  have hlt : ∀ x ∈ [c, s.size / 65536 % 256, s.size / 256 % 256, s.size % 256], x < 256 := by
    intro x hx
    simp only [List.mem_cons, List.not_mem_nil, or_false] at hx
    omega
  have Hlt := Lib.hid hlt
  have e1 : (s.size : Int) / 65536 % 256 = ((s.size / 65536 % 256 : Nat) : Int) := by omega
  have e6 : (s.size : Int) / 65536 = ((s.size / 65536 % 256 : Nat) : Int) := by omega
  have e2 : (s.size : Int) / 256 % 256 = ((s.size / 256 % 256 : Nat) : Int) := by omega
  have e3 : (s.size : Int) % 256 = ((s.size % 256 : Nat) : Int) := by omega
  have e4 : (s.size : Int).tdiv 65536 % 256 = ((s.size / 65536 % 256 : Nat) : Int) := by rw [Int.tdiv_eq_ediv_of_nonneg (by omega)]; exact e1
  have e5 : (s.size : Int).tdiv 256 % 256 = ((s.size / 256 % 256 : Nat) : Int) := by rw [Int.tdiv_eq_ediv_of_nonneg (by omega)]; exact e2
  generalize s.size / 65536 % 256 = x1 at *
  generalize s.size / 256 % 256 = x2 at *
  generalize s.size % 256 = x3 at *
  have k4 := blk1 w 5 #[.int .u8 (c : Int), .int .u8 (x1 : Int), .int .u8 (x2 : Int), .int .u8 (x3 : Int)]
  have hcv := conv_row _ w.heap.size 4 [c, x1, x2, x3] Hlt.out (fun j x hx => by
    rw [k4.cell j]
    match j with
    | 0 => cases hx; rfl
    | 1 => cases hx; rfl
    | 2 => cases hx; rfl
    | 3 => cases hx; rfl
    | j + 4 => cases hx)
  obtain ⟨h4, hh4⟩ : ∃ h4 : ByteArray, (⟨([c, x1, x2, x3].map UInt8.ofNat).toArray⟩ : ByteArray) = h4 := ⟨_, rfl⟩
  have hbh : bysN h4 = [c, x1, x2, x3] := by rw [← hh4]; exact u8L_bys Hlt.out
  have hz4 : h4.size = 4 := by rw [← bysN_len, hbh]; rfl
  rw [hh4] at hcv
  have hcv' : (convert 56 9 (.slice (some ⟨w.heap.size, 0, none⟩) 4 4)).run Tryz.prog _ = .ok (.string h4) _ := hcv
  obtain ⟨t, ht, hadd⟩ := cat_big h4 s (by omega)
  have HT : Hid (bysN t = tlvT c (bysN s)) := Lib.hid (by rw [ht, hbh, htl.out])
  clear hcv hh4 hbh ht k4 hlt
  go_enter Tryz.func79, Tryz.ntmps79
  go_wp2
  go_ret
  exact ⟨_, rfl, HT.out, BW_alloc (BW_refl w) _⟩
end Go.Proofs.YtpcdgljcpacpiaaGreatDoor
namespace Go.Proofs.YtpcdgljcpacpiaaGreatDoor
open Go.RowKit
attribute [local go_sem ↓] Go.wp_at_zero Go.wp_at_succ
/-- The worlds that differ in one box, and in what is new. -/
abbrev Kept (b : Nat) (w w' : World) : Prop := w.grownBy w' (some b)
theorem kept_refl (b : Nat) (w : World) : Kept b w w := ⟨rfl, rfl, rfl, Nat.le_refl _, fun _ _ _ => rfl⟩
theorem kept_trans {b : Nat} {a w w' : World} (h : Kept b a w) (h2 : Kept b w w') : Kept b a w' :=
  ⟨h2.os.trans h.os, h2.tape.trans h.tape, h2.output.trans h.output, Nat.le_trans h.size h2.size, fun k hk hne => (h2.block k (Nat.lt_of_lt_of_le hk h.size) hne).trans (h.block k hk hne)⟩
theorem kept_of {b : Nat} {w w' : World} (h : Below w.heap.size w w') : Kept b w w' := ⟨h.os, h.tape, h.output, h.size, fun k hk _ => h.block k hk⟩
theorem kept_below {b : Nat} {a w w' : World} (h : Kept b a w) (h2 : Below w.heap.size w w') : Kept b a w' := kept_trans h (kept_of h2)
theorem kept_set {b : Nat} {a w : World} (h : Kept b a w) (i : Nat) (v : Value) : Kept b a (w.setCell ⟨b, i, none⟩ v) :=
  grown_set h i v
theorem Blk.keptK {w w' : World} {g b : Nat} {t : TypeId} {cs : Array Value} (h : Blk w g t cs) (hk : Kept b w w') (hne : g ≠ b) : Blk w' g t cs :=
  (hk.block g h.lt (fun e => hne (Option.some.inj e))).trans h
theorem below_kept {B b : Nat} {a w w' : World} (h : Below B a w) (hB : B ≤ b) (hw : B ≤ w.heap.size) (hk : Kept b w w') : Below B a w' :=
  ⟨hk.os.trans h.os, hk.tape.trans h.tape, hk.output.trans h.output, Nat.le_trans h.size hk.size, fun k hlt => (hk.block k (Nat.lt_of_lt_of_le hlt hw) (fun e => by cases e; omega)).trans (h.block k hlt)⟩
def bodyN (l : List Nat) : Nat := l.getD 1 0 * 65536 + l.getD 2 0 * 256 + l.getD 3 0
/-- A text read: it, what is left, whether it went wrong. -/
def rText (c most : Nat) (l : List Nat) (bad : Bool) : List Nat × List Nat × Bool :=
  if bad = true ∨ l.length < 4 ∨ l.getD 0 0 ≠ c then ([], l, true)
  else if most < bodyN l ∨ l.length - 4 < bodyN l then ([], l, true)
  else ((l.drop 4).take (bodyN l), l.drop (4 + bodyN l), false)
end Go.Proofs.YtpcdgljcpacpiaaGreatDoor
namespace Go.Proofs.YtpcdgljcpacpiaaGreatDoor
open Go.RowKit
attribute [local go_sem ↓] Go.wp_at_zero Go.wp_at_succ
theorem cv_bytes (w : World) (s : ByteArray) : ∃ wb c, (convert 9 56 (.string s)).run Tryz.prog w = .ok (.slice (some ⟨w.heap.size, 0, none⟩) s.size c) wb ∧ Below w.heap.size w wb ∧ w.heap.size < wb.heap.size ∧
    ∀ (j x : Nat), (bysN s)[j]? = some x → wb.cell? ⟨w.heap.size, j, none⟩ = some (.int .u8 (x : Int)) :=
  ⟨_, _, Lib.run_convert_string_bytes w 9 56 5 s Tryz.underlying9 Tryz.underlying56 Tryz.underlying5, ⟨rfl, rfl, rfl, by rw [Lib.bytesWorld_size]; omega, fun k hk => Lib.bytesWorld_at_old _ _ _ _ hk⟩, by rw [Lib.bytesWorld_size]; omega, fun j x hx => by
    have hj : j < s.size := by rw [← bysN_len]; exact (List.getElem?_eq_some_iff.1 hx).1
    have h := Lib.bytesWorld_cell w 5 s j hj
    rw [h]
    have : (s.data.toList.getD j 0).toNat = x := by
      unfold bysN at hx
      rw [List.getElem?_map] at hx
      rw [List.getD_eq_getElem?_getD]
      cases he : s.data.toList[j]? with
      | none => rw [he] at hx; cases hx
      | some u => rw [he] at hx; exact Option.some.inj hx
    rw [this]⟩
theorem i64_or (a c : Nat) (ha : a < 65536) (hc : c < 256) : bits .or .i64 ((a : Int) * 256) (c : Int) = ((a * 256 + c : Nat) : Int) := by
  have e : bits .or .i64 ((a : Int) * 256) (c : Int) = IntKind.i64.wrap (((BitVec.ofInt 64 ((a : Int) * 256) ||| BitVec.ofInt 64 (c : Int)).toNat : Nat) : Int) := rfl
  have e1 : (BitVec.ofInt 64 ((a : Int) * 256)).toNat = a * 256 := by rw [BitVec.toNat_ofInt]; omega
  have e2 : (BitVec.ofInt 64 (c : Int)).toNat = c := by rw [BitVec.toNat_ofInt]; omega
  have h := or_apart c a 8 (by omega)
  rw [Nat.or_comm, show (2 : Nat) ^ 8 = 256 by rfl] at h
  rw [e, BitVec.toNat_or, e1, e2, h, IntKind.wrap_i64]
  omega
theorem sub3 : ∀ l : List Nat, 4 ≤ l.length → (l.take 4).drop 1 = [l.getD 1 0, l.getD 2 0, l.getD 3 0]
  | [], h => by simp at h
  | [_], h => by simp at h
  | [_, _], h => by simp at h
  | [_, _, _], h => by simp at h
  | _ :: _ :: _ :: _ :: _, _ => rfl
theorem rText_fail {c most : Nat} {l : List Nat} {bad : Bool} (h : bad = true ∨ l.length < 4 ∨ l.getD 0 0 ≠ c) : rText c most l bad = ([], l, true) := if_pos h
theorem rText_long {c most : Nat} {l : List Nat} {bad : Bool} (h : ¬ (bad = true ∨ l.length < 4 ∨ l.getD 0 0 ≠ c)) (h2 : most < bodyN l ∨ l.length - 4 < bodyN l) : rText c most l bad = ([], l, true) := by unfold rText; rw [if_neg h, if_pos h2]
theorem rText_ok {c most : Nat} {l : List Nat} {bad : Bool} (h : ¬ (bad = true ∨ l.length < 4 ∨ l.getD 0 0 ≠ c)) (h2 : ¬ (most < bodyN l ∨ l.length - 4 < bodyN l)) : rText c most l bad = ((l.drop 4).take (bodyN l), l.drop (4 + bodyN l), false) := by unfold rText; rw [if_neg h, if_neg h2]
theorem bysN_getD (T : ByteArray) (k : Nat) : (bysN T).getD k 0 < 256 := by
  rw [List.getD_eq_getElem?_getD]
  cases h : (bysN T)[k]? with
  | none => decide
  | some x => exact bysN_lt T x (List.mem_of_getElem? h)
/-- What a reader's text answers, and leaves. -/
def ReadsT (tt b : Nat) (w : World) (T : ByteArray) (r : List Nat × List Nat × Bool) (e : Ending) (w' : World) : Prop :=
  ∃ t T' bad', e = .returned (.string t) ∧ (bysN t, bysN T', bad') = r ∧ Blk w' b tt #[.string T', .bool bad'] ∧ T'.size ≤ T.size ∧ Kept b w w'
theorem rdt {tt b : Nat} {w w' : World} {T : ByteArray} {r : List Nat × List Nat × Bool} {e : Ending} (t T' : ByteArray) (bad' : Bool) (h1 : e = .returned (.string t)) (h2 : (bysN t, bysN T', bad') = r) (h3 : Blk w' b tt #[.string T', .bool bad']) (h4 : T'.size ≤ T.size) (h5 : Kept b w w') :
    ReadsT tt b w T r e w' := ⟨t, T', bad', h1, h2, h3, h4, h5⟩
end Go.Proofs.YtpcdgljcpacpiaaGreatDoor

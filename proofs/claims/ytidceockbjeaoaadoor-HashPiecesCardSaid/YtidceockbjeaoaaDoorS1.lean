/- The document's answer for the seal. -/
import Derived.Test.YtidceockbjeaoaaDoorT6
import Derived.Test.YtidceockbjeaoaaDoorOc
import Derived.Deep.DeepCutAuto
namespace Go.Proofs.YtidceockbjeaoaaDoor
open Go.RowKit
attribute [local go_sem ↓] Go.wp_at_zero Go.wp_at_succ
def Dj (a b : Value) : Prop := ∀ g, a.ownBlock = some g → b.ownBlock ≠ some g
theorem Dj.symm {a b : Value} (h : Dj a b) : Dj b a := fun g h1 h2 => h g h2 h1
theorem own2.grown' {w w' : World} {base : Nat} {e : TypeId} {v v2 : Value} {n : Nat} {xs : List Value} (h : own2 w base e v n xs) (hg : w.grownBy w' v2.ownBlock) (hne : Dj v2 v) : own2 w' base e v n xs := by
  refine h.grown hg ?_
  cases hv : v2.ownBlock with
  | none => exact .inl rfl
  | some g => exact .inr (fun e => hne g hv e.symm)
theorem own2.dj {w : World} {base2 : Nat} {e2 : TypeId} {v v' v2 : Value} {n2 : Nat} {xs2 : List Value} (hv' : v'.ownBlock = v.ownBlock ∨ ∃ g, v'.ownBlock = some g ∧ w.heap.size ≤ g) (h2 : own2 w base2 e2 v2 n2 xs2) (hne : Dj v v2) : Dj v' v2 := by
  intro g hg
  rcases hv' with h | ⟨g', h, hle⟩
  · exact hne g (by rw [← h]; exact hg)
  · rw [hg] at h
    cases h
    rcases h2 with ⟨rfl, _⟩ | h2
    · simp [Value.ownBlock]
    · obtain ⟨g2, hb, _, hlt⟩ := h2.block
      rw [hb]
      intro e
      cases e
      omega
theorem own2.old {w : World} {base g : Nat} {e : TypeId} {v : Value} {n : Nat} {xs : List Value} (h : own2 w base e v n xs) (hg : g < base) : v.ownBlock ≠ some g := by
  rcases h with ⟨rfl, _⟩ | h
  · simp [Value.ownBlock]
  · obtain ⟨g2, hb, hle, _⟩ := h.block
    rw [hb]
    intro e
    cases e
    omega
theorem own2.le {w : World} {base : Nat} {e : TypeId} {v : Value} {n : Nat} {xs : List Value} (h : own2 w base e v n xs) : ∀ k, v.ownBlock = some k → base ≤ k := by
  intro k hk
  rcases h with ⟨rfl, _⟩ | h
  · simp [Value.ownBlock] at hk
  · obtain ⟨g2, hb, hle, _⟩ := h.block
    rw [hb] at hk
    cases hk
    exact hle
theorem Blk.grownA {w w' : World} {g : Nat} {t : TypeId} {cs : Array Value} {r : Option Nat} (h : Blk w g t cs) (hb : w.grownBy w' r) (hne : r ≠ some g) : Blk w' g t cs := (hb.block g h.lt (fun e => hne e.symm)).trans h
theorem bgrown {w0 w w' : World} {b : Nat} {r : Option Nat} (h : Below w0.heap.size w0 w) (hg : w.grownBy w' r) (hr : ∀ k, r = some k → b ≤ k) (hb : w0.heap.size ≤ b := by omega) : Below w0.heap.size w0 w' :=
  h.grown hg h.size (fun k hk => Nat.le_trans hb (hr k hk))
/-- A byte, turned over by another. -/
def xo (b c : Nat) : Nat := (BitVec.ofInt 8 (c : Int) ^^^ BitVec.ofInt 8 (b : Int)).toNat
theorem xo_lt (b c : Nat) : xo b c < 256 := BitVec.isLt _
theorem xo_bits (b c : Nat) : bits .xor .u8 (c : Int) (b : Int) = ((xo b c : Nat) : Int) := by
  show IntKind.u8.wrap _ = _
  have h := xo_lt b c
  rw [IntKind.wrap_u8]
  show ((xo b c : Nat) : Int) % 256 = _
  omega
def kx (K : List Nat) : List Nat := if 64 < K.length then sha K else K
def kb (K : List Nat) : List Nat := kx K ++ List.replicate (64 - (kx K).length) 0
def xb (b : Nat) (B : List Nat) : List Nat := B.map (xo b)
/-- The seal of the bytes S under the block B. -/
def mac (B S : List Nat) : List Nat := sha (xb 92 B ++ sha (xb 54 B ++ S))
theorem kx_le (K : List Nat) : (kx K).length ≤ 64 := by
  unfold kx
  split
  · rw [(sha_IsH K).1]; decide
  · omega
theorem kb_len (K : List Nat) : (kb K).length = 64 := by
  have := kx_le K
  unfold kb
  rw [List.length_append, List.length_replicate]
  omega
theorem kx_lt {K : List Nat} (h : ∀ b ∈ K, b < 256) : ∀ b ∈ kx K, b < 256 := by
  unfold kx
  split
  · exact (sha_IsH K).2
  · exact h
theorem kb_lt {K : List Nat} (h : ∀ b ∈ K, b < 256) : ∀ b ∈ kb K, b < 256 := by
  intro b hb
  unfold kb at hb
  rcases List.mem_append.1 hb with hb | hb
  · exact kx_lt h b hb
  · have := (List.mem_replicate.1 hb).2; omega
theorem xb_lt (b : Nat) (B : List Nat) : ∀ c ∈ xb b B, c < 256 := by
  intro c hc
  obtain ⟨d, _, rfl⟩ := List.mem_map.1 hc
  exact xo_lt b d
theorem xb_len (b : Nat) (B : List Nat) : (xb b B).length = B.length := by simp [xb]
theorem xb_succ (b : Nat) (B : List Nat) (k : Nat) (h : k < B.length) : U8s (xb b (B.take (k + 1))) = U8s (xb b (B.take k)) ++ [.int .u8 ((xo b (B.getD k 0) : Nat) : Int)] := by
  rw [List.take_succ_eq_append_getElem h, List.getD_eq_getElem?_getD, List.getElem?_eq_getElem h]
  simp only [xb, U8s, List.map_append, List.map_cons, List.map_nil, Option.getD_some]
theorem mac_IsH (B S : List Nat) : IsH (mac B S) := sha_IsH _
theorem cat_big (a b : ByteArray) (h : a.size + b.size ≤ 4398046511104) : ∃ t : ByteArray, bysN t = bysN a ++ bysN b ∧ ∀ w, (Op.stringOp .add a b).run Tryd.prog w = .ok (.string t) w :=
  ⟨a ++ b, bysN_append a b, fun w => run_string_add_sum w a b (by omega)⟩
theorem conv_ownB {g : Nat} {w : World} {base n cap : Nat} {L : List Nat} (hL : ∀ b ∈ L, b < 256) (hn : L.length = n) (hown : ownB w base 5 (.slice (some ⟨g, 0, none⟩) n cap) n (U8s L)) :
    (convert 24 9 (.slice (some ⟨g, 0, none⟩) n cap)).run Tryd.prog w = .ok (.string (byt L)) w := by
  subst hn
  have h := run_convert_bytes_back (P := Tryd.prog) w 24 9 5 ⟨g, 0, none⟩ cap (L.map fun b => UInt8.ofNat b) Tryd.underlying24 Tryd.underlying5 Tryd.underlying9 (fun j hj => by
    have hj2 : j < L.length := by simpa using hj
    have e2 : (U8s L)[j]? = some (.int .u8 ((L.getD j 0 : Nat) : Int)) := by
      have := U8s_at hj2
      simpa using this
    rw [addr_add, Nat.zero_add, hown.cells j _ e2, List.getElem_map, UInt8.toNat_ofNat', Nat.mod_eq_of_lt (hL _ (List.getElem_mem hj2)), List.getD_eq_getElem?_getD, List.getElem?_eq_getElem hj2]
    rfl)
  rw [List.length_map] at h
  exact h
theorem str_add (x y : Operand) (a b t : ByteArray) (w : World) (h : ∀ w, (Op.stringOp .add a b).run Tryd.prog w = .ok (.string t) w) :
    (do eqGuard .add 9 x y (.string a) (.string b); binOp .add 9 (.string a) (.string b) : Sem Value).run Tryd.prog w = .ok (.string t) w := by
  have h1 := h w
  go_simp
/-- What stands as long as the document's answer puts its texts together. -/
def RofS (w0 : World) (gI cI gO cO : Nat) (I O : List Nat) (w : World) : Prop :=
  ownB w (w0.heap.size + 1) 5 (.slice (some ⟨gI, 0, none⟩) 64 cI) 64 (U8s I) ∧ ownB w (w0.heap.size + 1) 5 (.slice (some ⟨gO, 0, none⟩) 64 cO) 64 (U8s O) ∧ (∃ cs, Blk w w0.heap.size 26 cs ∧ cs.size = 32) ∧ Below w0.heap.size w0 w
theorem RofS.on {w0 w w' : World} {gI cI gO cO : Nat} {I O : List Nat} (h : RofS w0 gI cI gO cO I O w) (hb : Below w.heap.size w w') : RofS w0 gI cI gO cO I O w' := by
  obtain ⟨h1, h2, ⟨cs, h3, h4⟩, h5⟩ := h
  exact ⟨h1.kept hb, h2.kept hb, ⟨cs, h3.on hb, h4⟩, BW_on h5 hb⟩
theorem RofS.drew {w0 w : World} {gI cI gO cO : Nat} {I O : List Nat} (h : RofS w0 gI cI gO cO I O w) : RofS w0 gI cI gO cO I O w.drew := h.on (Below.refl _ _).drew
theorem RofS.there {w0 w : World} {gI cI gO cO : Nat} {I O : List Nat} (h : RofS w0 gI cI gO cO I O w) {L : List Nat} (hL : IsH L) : w.there w0.heap.size 0 (U8s L).toArray.size := by
  obtain ⟨h1, h2, ⟨cs, h3, h4⟩, h5⟩ := h
  intro j hj
  rw [List.size_toArray, hash_len hL] at hj
  rw [Nat.zero_add]
  exact ⟨by rw [h3.cell, Array.getElem?_eq_getElem (by omega)]; rfl, h3.free j⟩
theorem RofS.blk {w0 w : World} {gI cI gO cO : Nat} {I O : List Nat} (h : RofS w0 gI cI gO cO I O w) {L : List Nat} (hL : IsH L) : Blk (w.setCells w0.heap.size 0 (U8s L)) w0.heap.size 26 (U8s L).toArray := by
  obtain ⟨h1, h2, ⟨cs, h3, h4⟩, h5⟩ := h
  exact setCells_all h3 _ (by rw [hash_len hL, h4])
theorem RofS.put {w0 w : World} {gI cI gO cO : Nat} {I O : List Nat} (h : RofS w0 gI cI gO cO I O w) {L : List Nat} (hL : IsH L) : RofS w0 gI cI gO cO I O (w.setCells w0.heap.size 0 (U8s L)) := by
  have hb := h.blk hL
  obtain ⟨h1, h2, ⟨cs, h3, h4⟩, h5⟩ := h
  have hg := grown_cells (U8s L) 0 (World.grownBy.refl w (some w0.heap.size))
  have f : ∀ {g c : Nat} {X : List Value}, ownB w (w0.heap.size + 1) 5 (.slice (some ⟨g, 0, none⟩) 64 c) 64 X → some w0.heap.size ≠ Value.ownBlock (.slice (some ⟨g, 0, none⟩) 64 c) := fun {g c X} h => (own2.old (.inr h) (Nat.lt_succ_self _)).symm
  exact ⟨h1.grown hg (f h1), h2.grown hg (f h2), ⟨_, hb, by rw [List.size_toArray, hash_len hL]⟩, below_setCells _ _ _ h5 (Nat.le_refl _)⟩
theorem kb_at (K : List Nat) (s : ByteArray) (h : bysN s = kx K) (k : Nat) : (kb K).getD k 0 = if k < s.size then (s.data.toList.getD k 0).toNat else 0 := by
  have hl : (kx K).length = s.size := by rw [← h, bysN_len]
  unfold kb
  by_cases hk : k < s.size
  · rw [if_pos hk, List.getD_eq_getElem?_getD, List.getElem?_append_left (by omega), ← h]
    have hk2 : k < s.data.toList.length := by simpa using hk
    unfold bysN
    rw [List.getElem?_map, List.getD_eq_getElem?_getD, List.getElem?_eq_getElem hk2]
    rfl
  · rw [if_neg hk, List.getD_eq_getElem?_getD, List.getElem?_append_right (by omega)]
    rcases Nat.lt_or_ge (k - (kx K).length) (64 - (kx K).length) with h1 | h1
    · rw [List.getElem?_replicate, if_pos h1]; rfl
    · rw [List.getElem?_replicate, if_neg (by omega)]; rfl
set_option maxHeartbeats 4000000 in
set_option maxRecDepth 100000 in
theorem rof_any (key s : ByteArray) (w : World) (h1 : key.size ≤ 1000000) (h2 : s.size ≤ 1000000) :
    Calls Tryd.prog 31 #[.string key, .string s] w fun e w' => e = .returned (.agg (U8s (mac (kb (bysN key)) (bysN s))).toArray) ∧ Below w.heap.size w w' := by
  obtain ⟨i0, hi0, iz0, iz1, iz2⟩ := info_parts infoU8
  go_enter Tryd.func31, Tryd.ntmps31
  have kr := blk1 w 26 (U8s z32).toArray
  have hb := BW_alloc (BW_refl w) (.cells (U8s z32).toArray 26)
  go_upto_if 11 with (fail)
  change Code.wp _ _ _ _ (w.alloc (.cells (U8s z32).toArray 26))
  generalize w.alloc (.cells (U8s z32).toArray 26) = W at *
  go_cut [0] (fun s0 wx => (∃ k1 : ByteArray, s0 = .string k1 ∧ bysN k1 = kx (bysN key)) ∧ Blk wx w.heap.size 26 (U8s z32).toArray ∧ Below w.heap.size w wx)
  case first =>
    by_cases hk : 64 < key.size
    · have hk1 : (64 : Int) < (key.size : Int) := by omega
      go_wp2_with fail
      refine (rquick_any key _ (by omega)).mono ?_
      rintro e w2 ⟨rfl, hb2⟩
      have Hsh := Lib.hid (sha_IsH (bysN key))
      have Hsv := Bx.mk (show shaV (bysN key) = .agg (U8s (sha (bysN key))).toArray from rfl)
      rw [Hsv.out]
      go_wp2_with fail
      refine (rtext_any _ Hsh.out _).mono ?_
      rintro e w3 ⟨rfl, hb3⟩
      go_wp2_with fail
      go_meet
      exact ⟨⟨_, rfl, by rw [bysN_byt Hsh.out.2]; unfold kx; rw [if_pos (by rw [bysN_len]; exact hk)]⟩, (kr.on hb2).on hb3, BW_on (BW_on hb hb2) hb3⟩
    · have hk1 : ¬ (64 : Int) < (key.size : Int) := by omega
      go_wp2_with fail
      go_meet
      exact ⟨⟨key, rfl, by unfold kx; rw [if_neg (by rw [bysN_len]; exact hk)]⟩, kr, hb⟩
  case rest =>
  clear kr hb
  obtain ⟨⟨k1, rfl, hk1⟩, kr, hb⟩ := hcut
  have hkl : k1.size ≤ 64 := by rw [← bysN_len, hk1]; exact kx_le _
  have Hat := Lib.hid (kb_at (bysN key) k1 hk1)
  have hBl := kb_len (bysN key)
  generalize hkB : kb (bysN key) = B at *
  have HkB := Bx.mk hkB
  clear hkB
  clear hk1
  go_wp2_with fail
  have hbs := hb.size
  go_loopw [5, 6, 7, 8] (fun a b i _ wi => ∃ k : Nat, k ≤ 64 ∧ i = .int .i64 (k : Int) ∧ own2 wi (w.heap.size + 1) 5 a k (U8s (xb 54 (B.take k))) ∧ own2 wi (w.heap.size + 1) 5 b k (U8s (xb 92 (B.take k))) ∧ Dj a b ∧ Blk wi w.heap.size 26 (U8s z32).toArray ∧ Below w.heap.size w wi) (fun _ _ i _ _ => 64 - (intOf i).toNat)
  case atStart => exact ⟨0, by omega, rfl, own2.nil _ _ _, own2.nil _ _ _, (fun g h => by cases h), kr, hb⟩
  case round =>
    clear kr hb hbs
    obtain ⟨k, hk, rfl, ha, hb2, hd, kr, hb⟩ := hrel
    have hbs := kr.lt
    by_cases h0 : k < 64
    · have hk1 : (k : Int) < 64 := by omega
      have hx1 := Lib.hid (xb_succ 54 B k (by rw [hBl]; exact h0))
      have hx2 := Lib.hid (xb_succ 92 B k (by rw [hBl]; exact h0))
      have hat := Hat.out k
      generalize B.getD k 0 = c at *
      have hbx : bits .xor .u8 (c : Int) 54 = ((xo 54 c : Nat) : Int) := xo_bits 54 c
      have hby : bits .xor .u8 (c : Int) 92 = ((xo 92 c : Nat) : Int) := xo_bits 92 c
      by_cases hks : k < k1.size
      · have hk2 : (k : Int) < (k1.size : Int) := by omega
        have hg : ∀ h : k < k1.size, (k1[k]'h).toNat = c := fun h => by
          have hk2 : k < k1.data.toList.length := by simpa using h
          rw [hat, if_pos hks, List.getD_eq_getElem?_getD, List.getElem?_eq_getElem hk2]
          rfl
        clear hat
        go_upto_region 12 with (at_builtin; go_must (refine @wpList_push2 Tryd.prog _ _ _ _ _ wr rfl _ _ 24 rfl (w.heap.size + 1) 5 i0 (.int .u8 0) 1 Tryd.underlying24 hi0 iz0 iz1 iz2 rfl u5 k (U8s (xb 54 (B.take k))) ?q1 ha (.int .u8 ((xo 54 c : Nat) : Int)) wr.heap.size ?q2 rfl rfl ?q3 ?q4 ?q5 ?_; (case q1 => rfl); (case q2 => rfl); (case q3 => unfold maxLen; omega); (case q4 => omega); (case q5 => omega)); intro a2 w2 ha2 hg2 hn2)
        have hb22 := hb2.grown' hg2 hd
        have hd2 := own2.dj hn2 hb2 hd
        have hblk2 : u5.ownBlock ≠ some w.heap.size := own2.old ha (Nat.lt_succ_self _)
        have kr2 := kr.grownA hg2 hblk2
        have hbb2 := bgrown hb hg2 (own2.le ha)
        have hz2 := hg2.size
        rw [← hx1.out] at ha2
        clear ha hb2 hd kr hb hg2 hn2 hblk2
        go_wp2_with (at_builtin; go_must (refine @wpList_push2 Tryd.prog _ _ _ _ _ w2 rfl _ _ 24 rfl (w.heap.size + 1) 5 i0 (.int .u8 0) 1 Tryd.underlying24 hi0 iz0 iz1 iz2 rfl u6 k (U8s (xb 92 (B.take k))) ?q1 hb22 (.int .u8 ((xo 92 c : Nat) : Int)) w2.heap.size ?q2 rfl rfl ?q3 ?q4 ?q5 ?_; (case q1 => rfl); (case q2 => rfl); (case q3 => unfold maxLen; omega); (case q4 => omega); (case q5 => omega)); intro b3 w3 hb3 hg3 hn3)
        have ha3 := ha2.grown' hg3 hd2.symm
        have hd3 := (own2.dj hn3 ha2 hd2.symm).symm
        have hblk3 : u6.ownBlock ≠ some w.heap.size := own2.old hb22 (Nat.lt_succ_self _)
        have kr3 := kr2.grownA hg3 hblk3
        have hbb3 := bgrown hbb2 hg3 (own2.le hb22)
        rw [← hx2.out] at hb3
        go_roundw
        case rel => exact ⟨k + 1, by omega, by go_num, ha3, hb3, hd3, kr3, hbb3⟩
        case measure => simp [intOf]; omega
      · have hk2 : ¬ (k : Int) < (k1.size : Int) := by omega
        rw [if_neg hks] at hat
        subst hat
        rw [show (((0 : Nat) : Int)) = 0 from rfl] at hbx hby
        go_upto_region 12 with (at_builtin; go_must (refine @wpList_push2 Tryd.prog _ _ _ _ _ wr rfl _ _ 24 rfl (w.heap.size + 1) 5 i0 (.int .u8 0) 1 Tryd.underlying24 hi0 iz0 iz1 iz2 rfl u5 k (U8s (xb 54 (B.take k))) ?q1 ha (.int .u8 ((xo 54 0 : Nat) : Int)) wr.heap.size ?q2 rfl rfl ?q3 ?q4 ?q5 ?_; (case q1 => rfl); (case q2 => rfl); (case q3 => unfold maxLen; omega); (case q4 => omega); (case q5 => omega)); intro a2 w2 ha2 hg2 hn2)
        have hb22 := hb2.grown' hg2 hd
        have hd2 := own2.dj hn2 hb2 hd
        have hblk2 : u5.ownBlock ≠ some w.heap.size := own2.old ha (Nat.lt_succ_self _)
        have kr2 := kr.grownA hg2 hblk2
        have hbb2 := bgrown hb hg2 (own2.le ha)
        have hz2 := hg2.size
        rw [← hx1.out] at ha2
        clear ha hb2 hd kr hb hg2 hn2 hblk2
        go_wp2_with (at_builtin; go_must (refine @wpList_push2 Tryd.prog _ _ _ _ _ w2 rfl _ _ 24 rfl (w.heap.size + 1) 5 i0 (.int .u8 0) 1 Tryd.underlying24 hi0 iz0 iz1 iz2 rfl u6 k (U8s (xb 92 (B.take k))) ?q1 hb22 (.int .u8 ((xo 92 0 : Nat) : Int)) w2.heap.size ?q2 rfl rfl ?q3 ?q4 ?q5 ?_; (case q1 => rfl); (case q2 => rfl); (case q3 => unfold maxLen; omega); (case q4 => omega); (case q5 => omega)); intro b3 w3 hb3 hg3 hn3)
        have ha3 := ha2.grown' hg3 hd2.symm
        have hd3 := (own2.dj hn3 ha2 hd2.symm).symm
        have hblk3 : u6.ownBlock ≠ some w.heap.size := own2.old hb22 (Nat.lt_succ_self _)
        have kr3 := kr2.grownA hg3 hblk3
        have hbb3 := bgrown hbb2 hg3 (own2.le hb22)
        rw [← hx2.out] at hb3
        go_roundw
        case rel => exact ⟨k + 1, by omega, by go_num, ha3, hb3, hd3, kr3, hbb3⟩
        case measure => simp [intOf]; omega
    · obtain rfl : k = 64 := by omega
      -- REGION
      obtain ⟨gI, cI, rfl, _⟩ := (ha.form (by omega)).form
      obtain ⟨gO, cO, rfl, _⟩ := (hb2.form (by omega)).form
      rw [List.take_of_length_le (by rw [hBl]; exact Nat.le_refl _)] at ha hb2
      have hS : RofS w gI cI gO cO (xb 54 B) (xb 92 B) wr := ⟨ha.form (by omega), hb2.form (by omega), ⟨_, kr, rfl⟩, hb⟩
      have hI := Lib.hid (xb_lt 54 B)
      have hO := Lib.hid (xb_lt 92 B)
      have hI64 := Lib.hid ((xb_len 54 B).trans hBl)
      have hO64 := Lib.hid ((xb_len 92 B).trans hBl)
      have Hmac := Bx.mk (show mac B (bysN s) = sha (xb 92 B ++ sha (xb 54 B ++ bysN s)) from rfl)
      clear ha hb2 hd kr hb hk h0 hbs
      generalize xb 54 B = I at *
      generalize xb 92 B = O at *
      obtain ⟨t1, ht1, hc1'⟩ := cat_big (byt I) s (by rw [byt_size, hI64.out]; omega)
      rw [bysN_byt hI.out] at ht1
      have hc1 := Lib.hid hc1'
      have hst1 : t1.size ≤ 1000064 := by rw [← bysN_len, ht1, List.length_append, hI64.out, bysN_len]; omega
      have HH1 := Lib.hid (sha_IsH (I ++ bysN s))
      have HV1 : Hid (shaV (bysN t1) = .agg (U8s (sha (I ++ bysN s))).toArray) := Lib.hid (by rw [ht1]; rfl)
      generalize sha (I ++ bysN s) = H1 at *
      obtain ⟨t2, ht2, hc2'⟩ := cat_big (byt O) (byt H1) (by rw [byt_size, byt_size, hO64.out, HH1.out.1]; omega)
      rw [bysN_byt hO.out, bysN_byt HH1.out.2] at ht2
      have hc2 := Lib.hid hc2'
      have hst2 : t2.size ≤ 96 := by rw [← bysN_len, ht2, List.length_append, hO64.out, HH1.out.1]; omega
      have HH2 := Lib.hid (sha_IsH (O ++ H1))
      have HV2 : Hid (shaV (bysN t2) = .agg (U8s (sha (O ++ H1))).toArray) := Lib.hid (by rw [ht2]; rfl)
      generalize sha (O ++ H1) = H2 at *
      clear hc1' hc2' ht1 ht2
      have hszL : Hid ((Tryd.prog.info? 26).map (·.size) = some (U8s H2).toArray.size) := hash_sz HH2.out
      have hone : Hid ((U8s H2).toArray.all (·.oneCell') = true) := hash_one H2
      go_wp2_with fail
      refine wp_region_held_drew (S := RofS w gI cI gO cO I O) (by kernel_rfl) hS.drew (fun hH0 => ?_)
      refine wpAnyH_take (i := 0) (v := .slice (some ⟨gO, 0, none⟩) 64 cO) rfl (by kernel_rfl) (by kernel_rfl) (by kernel_rfl) (fun _ _ _ h => h) (yk_move (by kernel_rfl) _ rfl _ (by kernel_rfl)) hH0 ?_
      refine wpAnyH_take (i := 1) (v := .string (byt O)) rfl (by kernel_rfl) (by kernel_rfl) (by kernel_rfl) (fun _ _ _ h => h) (yk_conv (by kernel_rfl) _ _ _ rfl (.slice (some ⟨gO, 0, none⟩) 64 cO) (by kernel_rfl) _ (fun w' hw' => conv_ownB hO.out hO64.out hw'.2.1)) hH0 ?_
      refine wpAnyH_take (i := 2) (v := .slice (some ⟨gI, 0, none⟩) 64 cI) rfl (by kernel_rfl) (by kernel_rfl) (by kernel_rfl) (fun _ _ _ h => h) (yk_move (by kernel_rfl) _ rfl _ (by kernel_rfl)) hH0 ?_
      refine wpAnyH_take (i := 3) (v := .string (byt I)) rfl (by kernel_rfl) (by kernel_rfl) (by kernel_rfl) (fun _ _ _ h => h) (yk_conv (by kernel_rfl) _ _ _ rfl (.slice (some ⟨gI, 0, none⟩) 64 cI) (by kernel_rfl) _ (fun w' hw' => conv_ownB hI.out hI64.out hw'.1)) hH0 ?_
      refine wpAnyH_take (i := 4) (v := .string s) rfl (by kernel_rfl) (by kernel_rfl) (by kernel_rfl) (fun _ _ _ h => h) (yk_move (by kernel_rfl) _ rfl _ (by kernel_rfl)) hH0 ?_
      refine wpAnyH_take (i := 5) (v := .string t1) rfl (by kernel_rfl) (by kernel_rfl) (by kernel_rfl) (fun _ _ _ h => h) (yk_bin (by kernel_rfl) _ _ _ _ _ rfl (.string (byt I)) (.string s) (by kernel_rfl) (by kernel_rfl) _ (fun w' hw' => str_add _ _ _ _ _ w' hc1.out)) hH0 ?_
      refine wpAnyH_ready (rs := [6]) (by kernel_rfl) (by simp) ?_
      refine AllReadyH.cons rfl (fun K hK => ?_) AllReadyH.nil
      go_simp
      go_at_call 37
      refine (rquick_any t1 _ (by omega)).mono ?_
      rintro e w6 ⟨rfl, hd6⟩
      rw [HV1.out]
      go_wp2_with fail
      refine hK.out _ _ (RofS.on hH0 hd6) (fun hH1 => ?_)
      clear hK K
      refine wpAnyH_ready (rs := [7]) (by kernel_rfl) (by simp) ?_
      refine AllReadyH.cons rfl (fun K hK => ?_) AllReadyH.nil
      go_simp
      go_at_call 28
      refine (rtext_any H1 HH1.out _).mono ?_
      rintro e w7 ⟨rfl, hd7⟩
      go_wp2_with fail
      refine hK.out _ _ (RofS.on hH1 hd7) (fun hH2 => ?_)
      clear hK K
      refine wpAnyH_take (i := 8) (v := .string t2) rfl (by kernel_rfl) (by kernel_rfl) (by kernel_rfl) (fun _ _ _ h => h) (yk_bin (by kernel_rfl) _ _ _ _ _ rfl (.string (byt O)) (.string (byt H1)) (by kernel_rfl) (by kernel_rfl) _ (fun w' hw' => str_add _ _ _ _ _ w' hc2.out)) hH2 ?_
      refine wpAnyH_ready (rs := [9]) (by kernel_rfl) (by simp) ?_
      refine AllReadyH.cons rfl (fun K hK => ?_) AllReadyH.nil
      go_simp
      go_at_call 37
      refine (rquick_any t2 _ (by omega)).mono ?_
      rintro e w9 ⟨rfl, hd9⟩
      rw [HV2.out]
      go_wp2_with fail
      refine hK.out _ _ (RofS.on hH2 hd9) (fun hH3 => ?_)
      clear hK K
      refine wpAnyH_ready (rs := [10]) (by kernel_rfl) (by simp) ?_
      refine AllReadyH.cons rfl (fun K hK => ?_) AllReadyH.nil
      rw [if_pos (by kernel_rfl)]
      refine wp_store_mid _ _ _ rfl w.heap.size 0 (U8s H2).toArray (by kernel_rfl) (by kernel_rfl) (RofS.there hH3 HH2.out) hszL.out hone.out ?_
      simp only [Act.put]
      refine hK.out _ _ (RofS.put hH3 HH2.out) (fun hH4 => ?_)
      clear hK K
      refine wpAnyH_done (by kernel_rfl) ?_ _
      have ko := RofS.blk hH3 HH2.out
      have hbf := hH4.2.2.2
      go_wp2_with fail
      refine bodyPost_ret (v := .agg (U8s H2).toArray) (results_cell_row Tryd.results31 _ _ w.heap.size 26 _ (0, 0) _ (by rfl) ko Tryd.underlying26 rfl hszL.out) rfl ⟨by rw [HkB.out, Hmac.out], hbf⟩
end Go.Proofs.YtidceockbjeaoaaDoor

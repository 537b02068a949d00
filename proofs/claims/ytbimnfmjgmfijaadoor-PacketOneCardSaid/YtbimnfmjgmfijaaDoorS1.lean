/- The document's answer for the seal. -/
import Derived.Test.YtbimnfmjgmfijaaDoorT6
import Derived.Test.YtbimnfmjgmfijaaDoorOc
import Derived.Deep.DeepCutAuto
namespace Go.Proofs.YtbimnfmjgmfijaaDoor
open Go.RowKit
attribute [local go_sem ↓] Go.wp_at_zero Go.wp_at_succ
def Dj (a b : Value) : Prop := ∀ g, a.ownBlock = some g → b.ownBlock ≠ some g
theorem Dj.symm {a b : Value} (h : Dj a b) : Dj b a := fun g h1 h2 => h g h2 h1
theorem own2.grown' {w w' : World} {base : Nat} {e : TypeId} {v v2 : Value} {n : Nat} {xs : List Value} (h : own2 w base e v n xs) (hg : w.grownBy w' v2.ownBlock) (hne : Dj v2 v) : own2 w' base e v n xs := by
  refine h.grown hg ?_
  cases hv : v2.ownBlock with
  | none => exact .inl rfl
  | some g => exact .inr (fun e => hne g hv e.symm)
theorem own2.dj {w : World} {base2 : Nat} {e2 : TypeId} {v v' v2 : Value} {n2 : Nat} {xs2 : List Value} (hv' : v'.ownBlock = v.ownBlock ∨ ∃ g, v'.ownBlock = some g ∧ w.heap.size ≤ g) (h2 : own2 w base2 e2 v2 n2 xs2) (hne : Dj v v2) : Dj v' v2 := by
  intro g hg
  rcases hv' with h | ⟨g', h, hle⟩
  · exact hne g (by rw [← h]; exact hg)
  · rw [hg] at h
    cases h
    rcases h2 with ⟨rfl, _⟩ | h2
    · simp [Value.ownBlock]
    · obtain ⟨g2, hb, _, hlt⟩ := h2.block
      rw [hb]
      intro e
      cases e
      omega
theorem own2.old {w : World} {base g : Nat} {e : TypeId} {v : Value} {n : Nat} {xs : List Value} (h : own2 w base e v n xs) (hg : g < base) : v.ownBlock ≠ some g := by
  rcases h with ⟨rfl, _⟩ | h
  · simp [Value.ownBlock]
  · obtain ⟨g2, hb, hle, _⟩ := h.block
    rw [hb]
    intro e
    cases e
    omega
theorem own2.le {w : World} {base : Nat} {e : TypeId} {v : Value} {n : Nat} {xs : List Value} (h : own2 w base e v n xs) : ∀ k, v.ownBlock = some k → base ≤ k := by
  intro k hk
  rcases h with ⟨rfl, _⟩ | h
  · simp [Value.ownBlock] at hk
  · obtain ⟨g2, hb, hle, _⟩ := h.block
    rw [hb] at hk
    cases hk
    exact hle
theorem Blk.grownA {w w' : World} {g : Nat} {t : TypeId} {cs : Array Value} {r : Option Nat} (h : Blk w g t cs) (hb : w.grownBy w' r) (hne : r ≠ some g) : Blk w' g t cs := (hb.block g h.lt (fun e => hne e.symm)).trans h
theorem bgrown {w0 w w' : World} {b : Nat} {r : Option Nat} (h : Below w0.heap.size w0 w) (hg : w.grownBy w' r) (hr : ∀ k, r = some k → b ≤ k) (hb : w0.heap.size ≤ b := by omega) : Below w0.heap.size w0 w' :=
  h.grown hg h.size (fun k hk => Nat.le_trans hb (hr k hk))
/-- A byte, turned over by another. -/
def xo (b c : Nat) : Nat := (BitVec.ofInt 8 (c : Int) ^^^ BitVec.ofInt 8 (b : Int)).toNat
theorem xo_lt (b c : Nat) : xo b c < 256 := BitVec.isLt _
theorem xo_bits (b c : Nat) : bits .xor .u8 (c : Int) (b : Int) = ((xo b c : Nat) : Int) := by
  show IntKind.u8.wrap _ = _
  have h := xo_lt b c
  rw [IntKind.wrap_u8]
  show ((xo b c : Nat) : Int) % 256 = _
  omega
def kx (K : List Nat) : List Nat := if 64 < K.length then sha K else K
def kb (K : List Nat) : List Nat := kx K ++ List.replicate (64 - (kx K).length) 0
def xb (b : Nat) (B : List Nat) : List Nat := B.map (xo b)
/-- The seal of the bytes S under the block B. -/
def mac (B S : List Nat) : List Nat := sha (xb 92 B ++ sha (xb 54 B ++ S))
theorem kx_le (K : List Nat) : (kx K).length ≤ 64 := by
  unfold kx
  split
  · rw [(sha_IsH K).1]; decide
  · omega
theorem kb_len (K : List Nat) : (kb K).length = 64 := by
  have := kx_le K
  unfold kb
  rw [List.length_append, List.length_replicate]
  omega
theorem kx_lt {K : List Nat} (h : ∀ b ∈ K, b < 256) : ∀ b ∈ kx K, b < 256 := by
  unfold kx
  split
  · exact (sha_IsH K).2
  · exact h
theorem kb_lt {K : List Nat} (h : ∀ b ∈ K, b < 256) : ∀ b ∈ kb K, b < 256 := by
  intro b hb
  unfold kb at hb
  rcases List.mem_append.1 hb with hb | hb
  · exact kx_lt h b hb
  · have := (List.mem_replicate.1 hb).2; omega
theorem xb_lt (b : Nat) (B : List Nat) : ∀ c ∈ xb b B, c < 256 := by
  intro c hc
  obtain ⟨d, _, rfl⟩ := List.mem_map.1 hc
  exact xo_lt b d
theorem xb_len (b : Nat) (B : List Nat) : (xb b B).length = B.length := by simp [xb]
theorem xb_succ (b : Nat) (B : List Nat) (k : Nat) (h : k < B.length) : U8s (xb b (B.take (k + 1))) = U8s (xb b (B.take k)) ++ [.int .u8 ((xo b (B.getD k 0) : Nat) : Int)] := by
  rw [List.take_succ_eq_append_getElem h, List.getD_eq_getElem?_getD, List.getElem?_eq_getElem h]
  simp only [xb, U8s, List.map_append, List.map_cons, List.map_nil, Option.getD_some]
theorem mac_IsH (B S : List Nat) : IsH (mac B S) := sha_IsH _
theorem cat_big (a b : ByteArray) (h : a.size + b.size ≤ 4398046511104) : ∃ t : ByteArray, bysN t = bysN a ++ bysN b ∧ ∀ w, (Op.stringOp .add a b).run Tryd.prog w = .ok (.string t) w :=
  ⟨a ++ b, bysN_append a b, fun w => run_string_add_sum w a b (by omega)⟩
theorem conv_ownB {g : Nat} {w : World} {base n cap : Nat} {L : List Nat} (hL : ∀ b ∈ L, b < 256) (hn : L.length = n) (hown : ownB w base 5 (.slice (some ⟨g, 0, none⟩) n cap) n (U8s L)) :
    (convert 37 9 (.slice (some ⟨g, 0, none⟩) n cap)).run Tryd.prog w = .ok (.string (byt L)) w := by
  subst hn
  have h := run_convert_bytes_back (P := Tryd.prog) w 37 9 5 ⟨g, 0, none⟩ cap (L.map fun b => UInt8.ofNat b) Tryd.underlying37 Tryd.underlying5 Tryd.underlying9 (fun j hj => by
    have hj2 : j < L.length := by simpa using hj
    have e2 : (U8s L)[j]? = some (.int .u8 ((L.getD j 0 : Nat) : Int)) := by
      have := U8s_at hj2
      simpa using this
    rw [addr_add, Nat.zero_add, hown.cells j _ e2, List.getElem_map, UInt8.toNat_ofNat', Nat.mod_eq_of_lt (hL _ (List.getElem_mem hj2)), List.getD_eq_getElem?_getD, List.getElem?_eq_getElem hj2]
    rfl)
  rw [List.length_map] at h
  exact h
theorem str_add (x y : Operand) (a b t : ByteArray) (w : World) (h : ∀ w, (Op.stringOp .add a b).run Tryd.prog w = .ok (.string t) w) :
    (do eqGuard .add 9 x y (.string a) (.string b); binOp .add 9 (.string a) (.string b) : Sem Value).run Tryd.prog w = .ok (.string t) w := by
  have h1 := h w
  go_simp
/-- What stands as long as the document's answer puts its texts together. -/
def RofS (w0 : World) (gI cI gO cO : Nat) (I O : List Nat) (w : World) : Prop :=
  ownB w (w0.heap.size + 1) 5 (.slice (some ⟨gI, 0, none⟩) 64 cI) 64 (U8s I) ∧ ownB w (w0.heap.size + 1) 5 (.slice (some ⟨gO, 0, none⟩) 64 cO) 64 (U8s O) ∧ (∃ cs, Blk w w0.heap.size 66 cs ∧ cs.size = 32) ∧ Below w0.heap.size w0 w
theorem RofS.on {w0 w w' : World} {gI cI gO cO : Nat} {I O : List Nat} (h : RofS w0 gI cI gO cO I O w) (hb : Below w.heap.size w w') : RofS w0 gI cI gO cO I O w' := by
  obtain ⟨h1, h2, ⟨cs, h3, h4⟩, h5⟩ := h
  exact ⟨h1.kept hb, h2.kept hb, ⟨cs, h3.on hb, h4⟩, BW_on h5 hb⟩
theorem RofS.drew {w0 w : World} {gI cI gO cO : Nat} {I O : List Nat} (h : RofS w0 gI cI gO cO I O w) : RofS w0 gI cI gO cO I O w.drew := h.on (Below.refl _ _).drew
theorem RofS.there {w0 w : World} {gI cI gO cO : Nat} {I O : List Nat} (h : RofS w0 gI cI gO cO I O w) {L : List Nat} (hL : IsH L) : w.there w0.heap.size 0 (U8s L).toArray.size := by
  obtain ⟨h1, h2, ⟨cs, h3, h4⟩, h5⟩ := h
  intro j hj
  rw [List.size_toArray, hash_len hL] at hj
  rw [Nat.zero_add]
  exact ⟨by rw [h3.cell, Array.getElem?_eq_getElem (by omega)]; rfl, h3.free j⟩
theorem RofS.blk {w0 w : World} {gI cI gO cO : Nat} {I O : List Nat} (h : RofS w0 gI cI gO cO I O w) {L : List Nat} (hL : IsH L) : Blk (w.setCells w0.heap.size 0 (U8s L)) w0.heap.size 66 (U8s L).toArray := by
  obtain ⟨h1, h2, ⟨cs, h3, h4⟩, h5⟩ := h
  exact setCells_all h3 _ (by rw [hash_len hL, h4])
theorem RofS.put {w0 w : World} {gI cI gO cO : Nat} {I O : List Nat} (h : RofS w0 gI cI gO cO I O w) {L : List Nat} (hL : IsH L) : RofS w0 gI cI gO cO I O (w.setCells w0.heap.size 0 (U8s L)) := by
  have hb := h.blk hL
  obtain ⟨h1, h2, ⟨cs, h3, h4⟩, h5⟩ := h
  have hg := grown_cells (U8s L) 0 (World.grownBy.refl w (some w0.heap.size))
  have f : ∀ {g c : Nat} {X : List Value}, ownB w (w0.heap.size + 1) 5 (.slice (some ⟨g, 0, none⟩) 64 c) 64 X → some w0.heap.size ≠ Value.ownBlock (.slice (some ⟨g, 0, none⟩) 64 c) := fun {g c X} h => (own2.old (.inr h) (Nat.lt_succ_self _)).symm
  exact ⟨h1.grown hg (f h1), h2.grown hg (f h2), ⟨_, hb, by rw [List.size_toArray, hash_len hL]⟩, below_setCells _ _ _ h5 (Nat.le_refl _)⟩
theorem kb_at (K : List Nat) (s : ByteArray) (h : bysN s = kx K) (k : Nat) : (kb K).getD k 0 = if k < s.size then (s.data.toList.getD k 0).toNat else 0 := by
  have hl : (kx K).length = s.size := by rw [← h, bysN_len]
  unfold kb
  by_cases hk : k < s.size
  · rw [if_pos hk, List.getD_eq_getElem?_getD, List.getElem?_append_left (by omega), ← h]
    have hk2 : k < s.data.toList.length := by simpa using hk
    unfold bysN
    rw [List.getElem?_map, List.getD_eq_getElem?_getD, List.getElem?_eq_getElem hk2]
    rfl
  · rw [if_neg hk, List.getD_eq_getElem?_getD, List.getElem?_append_right (by omega)]
    rcases Nat.lt_or_ge (k - (kx K).length) (64 - (kx K).length) with h1 | h1
    · rw [List.getElem?_replicate, if_pos h1]; rfl
    · rw [List.getElem?_replicate, if_neg (by omega)]; rfl
end Go.Proofs.YtbimnfmjgmfijaaDoor

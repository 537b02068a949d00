/- Layer 11 (bank), of no walk: keys, the numbers under them, what minting, burning and moving come to. -/
import Derived.Test.YtpcdgljcpacpiaaGreatDoorM1
import Derived.Test.YtpcdgljcpacpiaaGreatDoorMW
import Derived.Test.YtpcdgljcpacpiaaGreatDoorMD
import Derived.Test.YtpcdgljcpacpiaaGreatDoorPh
namespace Go.Proofs.YtpcdgljcpacpiaaGreatDoor
open Go.RowKit
theorem unb_bysB (n : Nat) (hn : W256 n) : unb (bys n) = n := by
  unfold unb
  have e : ((bys n).reverse.map UInt8.toNat) = digl n 32 := by
    apply List.ext_getElem (by simp [bys, digl])
    intro i h1 h2
    have hi : i < 32 := by simpa [digl] using h2
    simp only [List.getElem_map, List.getElem_reverse, bys, digl, List.getElem_range, List.length_map, List.length_range, byN]
    rw [UInt8.toNat_ofNat', show 31 - (32 - 1 - i) = i by omega]
    exact Nat.mod_eq_of_lt (Nat.mod_lt _ (by decide))
  rw [e, vl_digl, Nat.mod_eq_of_lt hn]
/-- The number that a text holds: none but 32 bytes hold one. -/
def numB (b : ByteArray) : Nat := if b.size = 32 then unb b.data.toList else 0
def wbB (n : Nat) : ByteArray := ⟨(bys n).toArray⟩
theorem wbB_size (n : Nat) : (wbB n).size = 32 := by
  show (bys n).toArray.size = 32
  rw [List.size_toArray, bys_len]
theorem numB_wbB {n : Nat} (hn : W256 n) : numB (wbB n) = n := by
  unfold numB
  rw [if_pos (wbB_size n)]
  exact unb_bysB n hn
theorem numB_lt (b : ByteArray) : W256 (numB b) := by
  unfold numB
  split
  · rename_i h; exact unb_lt b h
  · exact W256.zero
def keyL (a d : List Nat) : List Nat := 66 :: (tlvT 97 a ++ tlvT 100 d)
def totL (d : List Nat) : List Nat := 83 :: tlvT 100 d
theorem tlvT_lt {c : Nat} {l : List Nat} (hc : c < 256) (h : ∀ x ∈ l, x < 256) : ∀ x ∈ tlvT c l, x < 256 := by
  intro x hx
  unfold tlvT hd4 at hx
  rw [List.mem_append] at hx
  rcases hx with hx | hx
  · simp at hx
    rcases hx with rfl | rfl | rfl | rfl
    · exact hc
    all_goals omega
  · exact h x hx
theorem tlvT_len' (c : Nat) (l : List Nat) : (tlvT c l).length = l.length + 4 := by unfold tlvT hd4; rw [List.length_append]; simp; omega
/-- The text under which a map has what an account has; how much there is. -/
def keyB (a d : ByteArray) : ByteArray := byt (keyL (bysN a) (bysN d))
def totB (d : ByteArray) : ByteArray := byt (totL (bysN d))
theorem keyB_n (a d : ByteArray) : bysN (keyB a d) = keyL (bysN a) (bysN d) := by
  refine bysN_byt fun x hx => ?_
  rcases List.mem_cons.1 hx with rfl | hx
  · decide
  · rcases List.mem_append.1 hx with hx | hx
    · exact tlvT_lt (by decide) (bysN_lt a) x hx
    · exact tlvT_lt (by decide) (bysN_lt d) x hx
theorem totB_n (d : ByteArray) : bysN (totB d) = totL (bysN d) := by
  refine bysN_byt fun x hx => ?_
  rcases List.mem_cons.1 hx with rfl | hx
  · decide
  · exact tlvT_lt (by decide) (bysN_lt d) x hx
theorem key_of {k a d : ByteArray} (h : bysN k = keyL (bysN a) (bysN d)) : k = keyB a d := bysN_inj (h.trans (keyB_n a d).symm)
theorem tot_of {k d : ByteArray} (h : bysN k = totL (bysN d)) : k = totB d := bysN_inj (h.trans (totB_n d).symm)
theorem keyB_size (a d : ByteArray) : (keyB a d).size = a.size + d.size + 9 := by
  have h := congrArg List.length (keyB_n a d)
  rw [bysN_len] at h
  rw [h]
  unfold keyL
  rw [List.length_cons, List.length_append, tlvT_len', tlvT_len', bysN_len, bysN_len]
  omega
theorem totB_size (d : ByteArray) : (totB d).size = d.size + 5 := by
  have h := congrArg List.length (totB_n d)
  rw [bysN_len] at h
  rw [h]
  unfold totL
  rw [List.length_cons, tlvT_len', bysN_len]
theorem key_ne_tot (a d e : ByteArray) : keyB a d ≠ totB e := by
  intro h
  have h1 := congrArg bysN h
  rw [keyB_n, totB_n] at h1
  exact absurd (List.cons.inj h1).1 (by decide)
theorem tlvT_inj {c : Nat} {l m r s : List Nat} (hl : l.length < 16777216) (hm : m.length < 16777216) (h : tlvT c l ++ r = tlvT c m ++ s) : l = m ∧ r = s := by
  unfold tlvT hd4 at h
  simp only [List.cons_append, List.nil_append, List.cons.injEq, true_and] at h
  obtain ⟨h1, h2, h3, h4⟩ := h
  exact List.append_inj h4 (by omega)
theorem key_inj {a b d e : ByteArray} (ha : a.size < 16777216) (hb : b.size < 16777216) (hd : d.size < 16777216) (he : e.size < 16777216) (h : keyB a d = keyB b e) : a = b ∧ d = e := by
  have h1 := congrArg bysN h
  rw [keyB_n, keyB_n] at h1
  have h2 := (List.cons.inj h1).2
  obtain ⟨h3, h4⟩ := tlvT_inj (by rw [bysN_len]; exact ha) (by rw [bysN_len]; exact hb) h2
  have h5 : tlvT 100 (bysN d) ++ [] = tlvT 100 (bysN e) ++ [] := by rw [h4]
  exact ⟨bysN_inj h3, bysN_inj (tlvT_inj (by rw [bysN_len]; exact hd) (by rw [bysN_len]; exact he) h5).1⟩
/-- The number under a key. -/
def ng (E : List Ent) (k : ByteArray) : Nat := numB (gv E k)
theorem ng_lt (E : List Ent) (k : ByteArray) : W256 (ng E k) := numB_lt _
/-- A row with a number under a key; of 0 without it. -/
def setL (E : List Ent) (k : ByteArray) (n : Nat) : List Ent := if n = 0 then dropL E k else putL E k (wbB n)
theorem get_drop_ne {E : List Ent} (hs : Srt E) (k : ByteArray) {o : ByteArray} (h : o ≠ k) : getL (dropL E k) o = getL E o := by
  apply Option.ext
  intro y
  rw [get_iff (drop_srt hs k), get_iff hs, mem_dropL hs]
  exact ⟨fun h1 => h1.1, fun h1 => ⟨h1, h⟩⟩
theorem set_srt {E : List Ent} (hs : Srt E) (k : ByteArray) (n : Nat) : Srt (setL E k n) := by
  unfold setL
  split
  · exact drop_srt hs k
  · exact put_srt hs k _
theorem set_len {E : List Ent} (hs : Srt E) (k : ByteArray) (n : Nat) : (setL E k n).length ≤ E.length + 1 := by
  unfold setL
  split
  · have := drop_len hs k; omega
  · have := put_len hs k (wbB n); omega
theorem get_set {E : List Ent} (hs : Srt E) (k : ByteArray) (n : Nat) : getL (setL E k n) k = if n = 0 then none else some (wbB n) := by
  unfold setL
  split
  · exact get_drop hs k
  · exact get_put hs k _
theorem get_set_ne {E : List Ent} (hs : Srt E) (k : ByteArray) (n : Nat) {o : ByteArray} (h : o ≠ k) : getL (setL E k n) o = getL E o := by
  unfold setL
  split
  · exact get_drop_ne hs k h
  · exact get_put_ne hs k _ h
theorem ng_set {E : List Ent} (hs : Srt E) (k : ByteArray) {n : Nat} (hn : W256 n) : ng (setL E k n) k = n := by
  unfold ng gv
  rw [get_set hs]
  split
  · rename_i h; rw [h]; rfl
  · exact numB_wbB hn
theorem ng_set_ne {E : List Ent} (hs : Srt E) (k : ByteArray) (n : Nat) {o : ByteArray} (h : o ≠ k) : ng (setL E k n) o = ng E o := by
  unfold ng gv
  rw [get_set_ne hs k n h]
theorem ng_put_ne {E : List Ent} (hs : Srt E) (k : ByteArray) (v : ByteArray) {o : ByteArray} (h : o ≠ k) : ng (putL E k v) o = ng E o := by
  unfold ng gv
  rw [get_put_ne hs k v h]
theorem set_pos {E : List Ent} {k : ByteArray} {n : Nat} (h : n ≠ 0) : setL E k n = putL E k (wbB n) := if_neg h
theorem set_zero {E : List Ent} {k : ByteArray} : setL E k 0 = dropL E k := if_pos rfl
/-- May amounts be? -/
def okDn (l : List Nat) : Bool := decide (1 ≤ l.length) && decide (l.length ≤ 200)
def may1 (a d : ByteArray) (n : Nat) : Bool := okName (bysN a) && (okDn (bysN d) && !decide (n = 0))
def may2 (a b d : ByteArray) (n : Nat) : Bool := okName (bysN a) && (okName (bysN b) && (okDn (bysN d) && !decide (n = 0)))
theorem okName_size {a : ByteArray} (h : okName (bysN a) = true) : a.size ≤ 64 := by
  unfold okName at h
  rw [bysN_len] at h
  simp at h
  omega
theorem okDn_size {a : ByteArray} (h : okDn (bysN a) = true) : a.size ≤ 200 := by
  unfold okDn at h
  rw [bysN_len] at h
  simp at h
  omega
/-- What minting, burning and moving come to: an error's number, and a row. -/
def mintL (E : List Ent) (a d : ByteArray) (n : Nat) : Int × List Ent :=
  if may1 a d n = true then
    if wOk (ng E (totB d) + n) = true ∧ wOk (ng E (keyB a d) + n) = true then (0, putL (putL E (totB d) (wbB (ng E (totB d) + n))) (keyB a d) (wbB (ng E (keyB a d) + n)))
    else (17, [])
  else (1, [])
def burnL (E : List Ent) (a d : ByteArray) (n : Nat) : Int × List Ent :=
  if may1 a d n = true then
    if n ≤ ng E (totB d) ∧ n ≤ ng E (keyB a d) then (0, setL (setL E (totB d) (ng E (totB d) - n)) (keyB a d) (ng E (keyB a d) - n))
    else (16, [])
  else (1, [])
def moveL (E : List Ent) (a b d : ByteArray) (n : Nat) : Int × List Ent :=
  if may2 a b d n = true then
    if n ≤ ng E (keyB a d) then
      if a = b then (0, E)
      else if wOk (ng E (keyB b d) + n) = true then (0, setL (setL E (keyB a d) (ng E (keyB a d) - n)) (keyB b d) (ng E (keyB b d) + n))
      else (17, [])
    else (16, [])
  else (1, [])
end Go.Proofs.YtpcdgljcpacpiaaGreatDoor

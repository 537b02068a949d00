/- What BankSplit says, of no walk. -/
import Derived.Test.YtpcdgljcpacpiaaGreatDoorBf
namespace Go.Proofs.YtpcdgljcpacpiaaGreatDoor
open Go.RowKit
def bc : ByteArray := ⟨#[99]⟩
theorem get_setL {E : List Ent} (hs : Srt E) (k : ByteArray) (n : Nat) (o : ByteArray) : getL (setL E k n) o = if o = k then (if n = 0 then none else some (wbB n)) else getL E o := by
  by_cases h : o = k
  · rw [if_pos h, h]; exact get_set hs k n
  · rw [if_neg h]; exact get_set_ne hs k n h
theorem ng_setL {E : List Ent} (hs : Srt E) (k : ByteArray) {n : Nat} (hn : W256 n) (o : ByteArray) : ng (setL E k n) o = if o = k then n else ng E o := by
  by_cases h : o = k
  · rw [if_pos h, h]; exact ng_set hs k hn
  · rw [if_neg h]; exact ng_set_ne hs k n h
theorem move_yes {E : List Ent} {a b d : ByteArray} {n : Nat} (hm : may2 a b d n = true) (hne : a ≠ b) (h : n ≤ ng E (keyB a d)) (hok : wOk (ng E (keyB b d) + n) = true) : moveL E a b d n = (0, setL (setL E (keyB a d) (ng E (keyB a d) - n)) (keyB b d) (ng E (keyB b d) + n)) := by
  unfold moveL
  rw [if_pos hm, if_pos h, if_neg hne, if_pos hok]
theorem move_no {E : List Ent} {a b d : ByteArray} {n : Nat} (hm : may2 a b d n = true) (h : ¬ n ≤ ng E (keyB a d)) : moveL E a b d n = (16, []) := by
  unfold moveL
  rw [if_pos hm, if_neg h]
theorem wOk_small {n : Nat} (h : n < 18446744073709551616) : wOk n = true := decide_eq_true (W256.small h)
theorem may2_abc {a b : ByteArray} (ha : okName (bysN a) = true) (hb : okName (bysN b) = true) {n : Nat} (h : n ≠ 0) : may2 a b bx n = true := by
  unfold may2
  rw [ha, hb, show okDn (bysN bx) = true from by decide +kernel]
  simpa using h
def Ka : ByteArray := keyB ba bx
def Kb : ByteArray := keyB bb bx
def Kc : ByteArray := keyB bc bx
def Sx : ByteArray := totB bx
theorem Kne : Ka ≠ Kb ∧ Ka ≠ Kc ∧ Kb ≠ Kc ∧ Ka ≠ Sx ∧ Kb ≠ Sx ∧ Kc ≠ Sx := by decide +kernel
theorem okabc : okName (bysN ba) = true ∧ okName (bysN bb) = true ∧ okName (bysN bc) = true := by decide +kernel
def splitD (N : Nat) : List Ent := putL (putL [] Sx (wbB N)) Ka (wbB N)
theorem split_mint {N : Nat} (h0 : N ≠ 0) (h : N < 1000) : mintL [] ba bx N = (0, splitD N) := by
  have hm : may1 ba bx N = true := by
    unfold may1
    rw [okabc.1, show okDn (bysN bx) = true from by decide +kernel]
    simpa using h0
  have e1 : ng [] (totB bx) = 0 := rfl
  have e2 : ng [] (keyB ba bx) = 0 := rfl
  unfold mintL
  rw [if_pos hm, e1, e2, Nat.zero_add, if_pos ⟨wOk_small (by omega), wOk_small (by omega)⟩]
  rfl
theorem splitD_srt (N : Nat) : Srt (splitD N) := put_srt (put_srt List.Pairwise.nil _ _) _ _
theorem splitD_get (N : Nat) (o : ByteArray) : getL (splitD N) o = if o = Ka then some (wbB N) else if o = Sx then some (wbB N) else none := by
  unfold splitD
  by_cases h : o = Ka
  · rw [if_pos h, h]; exact get_put (put_srt List.Pairwise.nil _ _) _ _
  · rw [if_neg h, get_put_ne (put_srt List.Pairwise.nil _ _) _ _ h]
    by_cases h2 : o = Sx
    · rw [if_pos h2, h2]; exact get_put List.Pairwise.nil _ _
    · rw [if_neg h2, get_put_ne List.Pairwise.nil _ _ h2]; rfl
theorem ng_of_get {E : List Ent} {k v : ByteArray} (h : getL E k = some v) : ng E k = numB v := by unfold ng gv; rw [h]; rfl
theorem ng_of_none {E : List Ent} {k : ByteArray} (h : getL E k = none) : ng E k = 0 := by unfold ng gv; rw [h]; rfl
theorem splitD_a {N : Nat} (h : N < 1000) : ng (splitD N) Ka = N := by rw [ng_of_get (by rw [splitD_get, if_pos rfl])]; exact numB_wbB (W256.small (by omega))
theorem splitD_b (N : Nat) : ng (splitD N) Kb = 0 := ng_of_none (by rw [splitD_get, if_neg Kne.1.symm, if_neg Kne.2.2.2.2.1])
theorem splitD_c (N : Nat) : ng (splitD N) Kc = 0 := ng_of_none (by rw [splitD_get, if_neg Kne.2.1.symm, if_neg Kne.2.2.2.2.2])
def splitX (N s : Nat) : List Ent := setL (setL (splitD N) Ka (N - s)) Kb s
theorem splitX_srt (N s : Nat) : Srt (splitX N s) := set_srt (set_srt (splitD_srt N) _ _) _ _
theorem splitX_a {N s : Nat} (h : N < 1000) : ng (splitX N s) Ka = N - s := by
  unfold splitX
  rw [ng_set_ne (set_srt (splitD_srt N) _ _) _ _ Kne.1, ng_set (splitD_srt N) _ (W256.small (by omega))]
theorem splitX_b {N s : Nat} (hs : s < 1000) : ng (splitX N s) Kb = s := by
  unfold splitX
  rw [ng_set (set_srt (splitD_srt N) _ _) _ (W256.small (by omega))]
theorem splitX_c (N s : Nat) : ng (splitX N s) Kc = 0 := by
  unfold splitX
  rw [ng_set_ne (set_srt (splitD_srt N) _ _) _ _ Kne.2.2.1.symm, ng_set_ne (splitD_srt N) _ _ Kne.2.1.symm, splitD_c]
theorem split_move {N s : Nat} (hN : N < 1000) (h0 : s ≠ 0) (hs : s < 1000) : moveL (splitD N) ba bb bx s = if s ≤ N then (0, splitX N s) else (16, []) := by
  have hm := may2_abc okabc.1 okabc.2.1 h0
  have ea : ng (splitD N) (keyB ba bx) = N := splitD_a hN
  have eb : ng (splitD N) (keyB bb bx) = 0 := splitD_b N
  by_cases h : s ≤ N
  · rw [if_pos h, move_yes hm (by decide +kernel) (by rw [ea]; exact h) (wOk_small (by rw [eb]; omega)), ea, eb, Nat.zero_add]
    rfl
  · rw [if_neg h, move_no hm (by rw [ea]; exact h)]
theorem split_z {N a b : Nat} (hN : N < 1000) (h0 : b ≠ 0) (h : a + b ≤ N) : moveL (splitX N a) ba bb bx b = (0, splitX N (a + b)) := by
  have hm := may2_abc okabc.1 okabc.2.1 h0
  have ea : ng (splitX N a) (keyB ba bx) = N - a := splitX_a hN
  have eb : ng (splitX N a) (keyB bb bx) = a := splitX_b (by omega)
  rw [move_yes hm (by decide +kernel) (by rw [ea]; omega) (wOk_small (by rw [eb]; omega)), ea, eb]
  refine Prod.ext rfl ?_
  refine srt_ext_get (set_srt (set_srt (splitX_srt N a) _ _) _ _) (splitX_srt N (a + b)) fun k => ?_
  show getL (setL (setL (splitX N a) Ka (N - a - b)) Kb (a + b)) k = getL (splitX N (a + b)) k
  unfold splitX
  rw [get_setL (set_srt (set_srt (set_srt (splitD_srt N) _ _) _ _) _ _), get_setL (set_srt (splitD_srt N) _ _)]
  by_cases h1 : k = Kb
  · rw [if_pos h1, if_pos h1]
  · rw [if_neg h1, if_neg h1, get_setL (set_srt (set_srt (splitD_srt N) _ _) _ _), get_setL (splitD_srt N), get_setL (set_srt (splitD_srt N) _ _), if_neg h1, get_setL (splitD_srt N)]
    by_cases h2 : k = Ka
    · rw [if_pos h2, if_pos h2, Nat.sub_sub]
    · rw [if_neg h2, if_neg h2, if_neg h2]
def splitC (N s : Nat) : List Ent := setL (setL (splitD N) Ka (N - s)) Kc s
theorem splitC_srt (N s : Nat) : Srt (splitC N s) := set_srt (set_srt (splitD_srt N) _ _) _ _
theorem split_u {N s : Nat} (hN : N < 1000) (h0 : s ≠ 0) (h : s ≤ N) : moveL (splitD N) ba bc bx s = (0, splitC N s) := by
  have hm := may2_abc okabc.1 okabc.2.2 h0
  have ea : ng (splitD N) (keyB ba bx) = N := splitD_a hN
  have eb : ng (splitD N) (keyB bc bx) = 0 := splitD_c N
  rw [move_yes hm (by decide +kernel) (by rw [ea]; exact h) (wOk_small (by rw [eb]; omega)), ea, eb, Nat.zero_add]
  rfl
theorem split_c {N s : Nat} (hN : N < 1000) (h0 : s ≠ 0) (h : s ≤ N) : moveL (splitX N s) bb bc bx s = (0, splitC N s) := by
  have hm := may2_abc okabc.2.1 okabc.2.2 h0
  have ea : ng (splitX N s) (keyB bb bx) = s := splitX_b (by omega)
  have eb : ng (splitX N s) (keyB bc bx) = 0 := splitX_c N s
  rw [move_yes hm (by decide +kernel) (by rw [ea]; exact Nat.le_refl _) (wOk_small (by rw [eb]; omega)), ea, eb, Nat.zero_add, Nat.sub_self]
  refine Prod.ext rfl ?_
  refine srt_ext_get (set_srt (set_srt (splitX_srt N s) _ _) _ _) (splitC_srt N s) fun k => ?_
  show getL (setL (setL (splitX N s) Kb 0) Kc s) k = getL (splitC N s) k
  unfold splitX splitC
  rw [get_setL (set_srt (set_srt (set_srt (splitD_srt N) _ _) _ _) _ _), get_setL (set_srt (splitD_srt N) _ _)]
  by_cases h1 : k = Kc
  · rw [if_pos h1, if_pos h1]
  · rw [if_neg h1, if_neg h1, get_setL (set_srt (set_srt (splitD_srt N) _ _) _ _), get_setL (splitD_srt N)]
    by_cases h2 : k = Kb
    · rw [if_pos h2, if_pos rfl, if_neg (by rw [h2]; exact Kne.1.symm), splitD_get, if_neg (by rw [h2]; exact Kne.1.symm), if_neg (by rw [h2]; exact Kne.2.2.2.2.1)]
    · rw [if_neg h2, get_setL (set_srt (splitD_srt N) _ _), if_neg h2, get_setL (splitD_srt N)]
theorem split_len (N s : Nat) : (splitD N).length ≤ 2 ∧ (splitX N s).length ≤ 4 ∧ (splitC N s).length ≤ 4 := by
  have h1 := put_len (List.Pairwise.nil : Srt []) Sx (wbB N)
  have h2 := put_len (put_srt (List.Pairwise.nil : Srt []) Sx (wbB N)) Ka (wbB N)
  have h3 := set_len (splitD_srt N) Ka (N - s)
  have h4 := set_len (set_srt (splitD_srt N) Ka (N - s)) Kb s
  have h5 := set_len (set_srt (splitD_srt N) Ka (N - s)) Kc s
  unfold splitD at *
  unfold splitX splitC splitD
  simp only [List.length_nil] at h1
  omega
end Go.Proofs.YtpcdgljcpacpiaaGreatDoor

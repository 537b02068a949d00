/- What BankBack says, of no walk: rows that a bank made hold numbers that are not 0; what was minted is burned again, what was moved comes back. -/
import Derived.Test.YtpcdgljcpacpiaaGreatDoorBl
namespace Go.Proofs.YtpcdgljcpacpiaaGreatDoor
open Go.RowKit
/-- Whatever stands in a row is a number, and not 0. -/
def Can (E : List Ent) : Prop := ∀ k v, getL E k = some v → ∃ n, n ≠ 0 ∧ W256 n ∧ v = wbB n
theorem can_nil : Can [] := fun k v h => by cases h
theorem can_set {E : List Ent} (hs : Srt E) (hc : Can E) (k : ByteArray) {n : Nat} (hn : W256 n) : Can (setL E k n) := fun o v h => by
  rw [get_setL hs] at h
  by_cases h1 : o = k
  · rw [if_pos h1] at h
    by_cases h2 : n = 0
    · rw [if_pos h2] at h; cases h
    · rw [if_neg h2] at h
      exact ⟨n, h2, hn, (Option.some.inj h).symm⟩
  · rw [if_neg h1] at h
    exact hc o v h
theorem can_get {E : List Ent} (hc : Can E) (k : ByteArray) : getL E k = if ng E k = 0 then none else some (wbB (ng E k)) := by
  cases h : getL E k with
  | none => rw [ng_of_none h, if_pos rfl]
  | some v =>
    obtain ⟨n, h0, hn, rfl⟩ := hc k v h
    rw [ng_of_get h, numB_wbB hn, if_neg h0]
theorem may1_pos' {a d : ByteArray} {n : Nat} (h : may1 a d n = true) : n ≠ 0 := by
  unfold may1 at h
  simp at h
  exact h.2.2
theorem may2_pos' {a b d : ByteArray} {n : Nat} (h : may2 a b d n = true) : n ≠ 0 ∧ okName (bysN a) = true ∧ okName (bysN b) = true ∧ okDn (bysN d) = true := by
  unfold may2 at h
  simp at h
  exact ⟨h.2.2.2, h.1, h.2.1, h.2.2.1⟩
theorem mint_set {E : List Ent} {a d : ByteArray} {n : Nat} {A : List Ent} (h : mintL E a d n = (0, A)) : may1 a d n = true ∧ W256 (ng E (totB d) + n) ∧ W256 (ng E (keyB a d) + n) ∧ A = setL (setL E (totB d) (ng E (totB d) + n)) (keyB a d) (ng E (keyB a d) + n) := by
  unfold mintL at h
  by_cases h1 : may1 a d n = true
  · have h0 := (may1_pos' h1)
    rw [if_pos h1] at h
    by_cases h2 : wOk (ng E (totB d) + n) = true ∧ wOk (ng E (keyB a d) + n) = true
    · rw [if_pos h2] at h
      refine ⟨h1, (wN_of0 h2.1).2, (wN_of0 h2.2).2, ?_⟩
      rw [set_pos (k := keyB a d) (by omega), set_pos (k := totB d) (by omega)]
      exact (Prod.mk.inj h).2.symm
    · rw [if_neg h2] at h; exact absurd (Prod.mk.inj h).1 (by decide)
  · rw [if_neg h1] at h; exact absurd (Prod.mk.inj h).1 (by decide)
theorem burn_set {E : List Ent} {a d : ByteArray} {n : Nat} {A : List Ent} (h : burnL E a d n = (0, A)) : A = setL (setL E (totB d) (ng E (totB d) - n)) (keyB a d) (ng E (keyB a d) - n) := by
  unfold burnL at h
  by_cases h1 : may1 a d n = true
  · rw [if_pos h1] at h
    by_cases h2 : n ≤ ng E (totB d) ∧ n ≤ ng E (keyB a d)
    · rw [if_pos h2] at h; exact (Prod.mk.inj h).2.symm
    · rw [if_neg h2] at h; exact absurd (Prod.mk.inj h).1 (by decide)
  · rw [if_neg h1] at h; exact absurd (Prod.mk.inj h).1 (by decide)
theorem move_set {E : List Ent} {a b d : ByteArray} {n : Nat} {A : List Ent} (h : moveL E a b d n = (0, A)) : may2 a b d n = true ∧ n ≤ ng E (keyB a d) ∧ ((a = b ∧ A = E) ∨ (a ≠ b ∧ W256 (ng E (keyB b d) + n) ∧ A = setL (setL E (keyB a d) (ng E (keyB a d) - n)) (keyB b d) (ng E (keyB b d) + n))) := by
  unfold moveL at h
  by_cases h1 : may2 a b d n = true
  · rw [if_pos h1] at h
    by_cases h2 : n ≤ ng E (keyB a d)
    · rw [if_pos h2] at h
      by_cases h3 : a = b
      · rw [if_pos h3] at h; exact ⟨h1, h2, .inl ⟨h3, (Prod.mk.inj h).2.symm⟩⟩
      · rw [if_neg h3] at h
        by_cases h4 : wOk (ng E (keyB b d) + n) = true
        · rw [if_pos h4] at h; exact ⟨h1, h2, .inr ⟨h3, (wN_of0 h4).2, (Prod.mk.inj h).2.symm⟩⟩
        · rw [if_neg h4] at h; exact absurd (Prod.mk.inj h).1 (by decide)
    · rw [if_neg h2] at h; exact absurd (Prod.mk.inj h).1 (by decide)
  · rw [if_neg h1] at h; exact absurd (Prod.mk.inj h).1 (by decide)
theorem mint_can {E : List Ent} (hs : Srt E) (hc : Can E) {a d : ByteArray} {n : Nat} {A : List Ent} (h : mintL E a d n = (0, A)) : Can A := by
  obtain ⟨_, w1, w2, rfl⟩ := mint_set h
  exact can_set (set_srt hs _ _) (can_set hs hc _ w1) _ w2
theorem burn_can {E : List Ent} (hs : Srt E) (hc : Can E) {a d : ByteArray} {n : Nat} {A : List Ent} (h : burnL E a d n = (0, A)) : Can A := by
  obtain rfl := burn_set h
  exact can_set (set_srt hs _ _) (can_set hs hc _ (ng_lt _ _).sub) _ (ng_lt _ _).sub
theorem move_can {E : List Ent} (hs : Srt E) (hc : Can E) {a b d : ByteArray} {n : Nat} {A : List Ent} (h : moveL E a b d n = (0, A)) : Can A := by
  obtain ⟨_, _, ⟨_, rfl⟩ | ⟨_, w1, rfl⟩⟩ := move_set h
  · exact hc
  · exact can_set (set_srt hs _ _) (can_set hs hc _ (ng_lt _ _).sub) _ w1
theorem mint_burn {E : List Ent} (hs : Srt E) (hc : Can E) {a d : ByteArray} {n : Nat} {A : List Ent} (h : mintL E a d n = (0, A)) : burnL A a d n = (0, E) := by
  obtain ⟨h1, w1, w2, rfl⟩ := mint_set h
  have hne := key_ne_tot a d d
  have e1 : ng (setL (setL E (totB d) (ng E (totB d) + n)) (keyB a d) (ng E (keyB a d) + n)) (totB d) = ng E (totB d) + n := by rw [ng_set_ne (set_srt hs _ _) _ _ hne.symm, ng_set hs _ w1]
  have e2 : ng (setL (setL E (totB d) (ng E (totB d) + n)) (keyB a d) (ng E (keyB a d) + n)) (keyB a d) = ng E (keyB a d) + n := ng_set (set_srt hs _ _) _ w2
  unfold burnL
  rw [if_pos h1, e1, e2, if_pos ⟨by omega, by omega⟩, Nat.add_sub_cancel, Nat.add_sub_cancel]
  refine Prod.ext rfl (srt_ext_get (set_srt (set_srt (set_srt (set_srt hs _ _) _ _) _ _) _ _) hs fun k => ?_)
  show getL (setL (setL (setL (setL E (totB d) (ng E (totB d) + n)) (keyB a d) (ng E (keyB a d) + n)) (totB d) (ng E (totB d))) (keyB a d) (ng E (keyB a d))) k = getL E k
  rw [get_setL (set_srt (set_srt (set_srt hs _ _) _ _) _ _)]
  by_cases k1 : k = keyB a d
  · rw [if_pos k1, k1, can_get hc (keyB a d)]
  · rw [if_neg k1, get_setL (set_srt (set_srt hs _ _) _ _)]
    by_cases k2 : k = totB d
    · rw [if_pos k2, k2, can_get hc (totB d)]
    · rw [if_neg k2, get_setL (set_srt hs _ _), if_neg k1, get_setL hs, if_neg k2]
theorem move_back {E : List Ent} (hs : Srt E) (hc : Can E) {a b d : ByteArray} {n : Nat} {A : List Ent} (h : moveL E a b d n = (0, A)) : moveL A b a d n = (0, E) ∧ ng A (totB d) = ng E (totB d) := by
  obtain ⟨h1, h2, ⟨rfl, rfl⟩ | ⟨h3, w1, rfl⟩⟩ := move_set h
  · exact ⟨h, rfl⟩
  · obtain ⟨h0, ha, hb, hd⟩ := may2_pos' h1
    have za := okName_size ha
    have zb := okName_size hb
    have zd := okDn_size hd
    have hk : keyB a d ≠ keyB b d := fun e => h3 (key_inj (by omega) (by omega) (by omega) (by omega) e).1
    have hN := ng_lt E (keyB a d)
    have e1 : ng (setL (setL E (keyB a d) (ng E (keyB a d) - n)) (keyB b d) (ng E (keyB b d) + n)) (keyB b d) = ng E (keyB b d) + n := ng_set (set_srt hs _ _) _ w1
    have e2 : ng (setL (setL E (keyB a d) (ng E (keyB a d) - n)) (keyB b d) (ng E (keyB b d) + n)) (keyB a d) = ng E (keyB a d) - n := by rw [ng_set_ne (set_srt hs _ _) _ _ hk, ng_set hs _ hN.sub]
    have hm : may2 b a d n = true := by
      unfold may2
      rw [hb, ha, hd]
      simpa using h0
    refine ⟨?_, ?_⟩
    · rw [move_yes hm (fun e => h3 e.symm) (by rw [e1]; omega) (by rw [e2, Nat.sub_add_cancel h2]; exact decide_eq_true hN), e1, e2, Nat.add_sub_cancel, Nat.sub_add_cancel h2]
      refine Prod.ext rfl (srt_ext_get (set_srt (set_srt (set_srt (set_srt hs _ _) _ _) _ _) _ _) hs fun k => ?_)
      show getL (setL (setL (setL (setL E (keyB a d) (ng E (keyB a d) - n)) (keyB b d) (ng E (keyB b d) + n)) (keyB b d) (ng E (keyB b d))) (keyB a d) (ng E (keyB a d))) k = getL E k
      rw [get_setL (set_srt (set_srt (set_srt hs _ _) _ _) _ _)]
      by_cases k1 : k = keyB a d
      · rw [if_pos k1, k1, can_get hc (keyB a d)]
      · rw [if_neg k1, get_setL (set_srt (set_srt hs _ _) _ _)]
        by_cases k2 : k = keyB b d
        · rw [if_pos k2, k2, can_get hc (keyB b d)]
        · rw [if_neg k2, get_setL (set_srt hs _ _), if_neg k2, get_setL hs, if_neg k1]
    · rw [ng_set_ne (set_srt hs _ _) _ _ (key_ne_tot b d d).symm, ng_set_ne hs _ _ (key_ne_tot a d d).symm]
end Go.Proofs.YtpcdgljcpacpiaaGreatDoor

/- What BankBack says, of no walk: rows that a bank made hold numbers that are not 0; what was minted is burned again, what was moved comes back. -/
import Derived.Test.YtpcdgljcpacpiaaGreatDoorBl
namespace Go.Proofs.YtpcdgljcpacpiaaGreatDoor
open Go.RowKit
/-- Whatever stands in a row is a number, and not 0. -/
def Can (E : List Ent) : Prop := ∀ k v, getL E k = some v → ∃ n, n ≠ 0 ∧ W256 n ∧ v = wbB n
theorem can_set {E : List Ent} (hs : Srt E) (hc : Can E) (k : ByteArray) {n : Nat} (hn : W256 n) : Can (setL E k n) := fun o v h => by
  rw [get_setL hs] at h
  by_cases h1 : o = k
  · rw [if_pos h1] at h
    by_cases h2 : n = 0
    · rw [if_pos h2] at h; cases h
    · rw [if_neg h2] at h
      exact ⟨n, h2, hn, (Option.some.inj h).symm⟩
  · rw [if_neg h1] at h
    exact hc o v h
theorem move_set {E : List Ent} {a b d : ByteArray} {n : Nat} {A : List Ent} (h : moveL E a b d n = (0, A)) : may2 a b d n = true ∧ n ≤ ng E (keyB a d) ∧ ((a = b ∧ A = E) ∨ (a ≠ b ∧ W256 (ng E (keyB b d) + n) ∧ A = setL (setL E (keyB a d) (ng E (keyB a d) - n)) (keyB b d) (ng E (keyB b d) + n))) := by
  unfold moveL at h
  by_cases h1 : may2 a b d n = true
  · rw [if_pos h1] at h
    by_cases h2 : n ≤ ng E (keyB a d)
    · rw [if_pos h2] at h
      by_cases h3 : a = b
      · rw [if_pos h3] at h; exact ⟨h1, h2, .inl ⟨h3, (Prod.mk.inj h).2.symm⟩⟩
      · rw [if_neg h3] at h
        by_cases h4 : wOk (ng E (keyB b d) + n) = true
        · rw [if_pos h4] at h; exact ⟨h1, h2, .inr ⟨h3, (wN_of0 h4).2, (Prod.mk.inj h).2.symm⟩⟩
        · rw [if_neg h4] at h; exact absurd (Prod.mk.inj h).1 (by decide)
    · rw [if_neg h2] at h; exact absurd (Prod.mk.inj h).1 (by decide)
  · rw [if_neg h1] at h; exact absurd (Prod.mk.inj h).1 (by decide)
theorem move_can {E : List Ent} (hs : Srt E) (hc : Can E) {a b d : ByteArray} {n : Nat} {A : List Ent} (h : moveL E a b d n = (0, A)) : Can A := by
  obtain ⟨_, _, ⟨_, rfl⟩ | ⟨_, w1, rfl⟩⟩ := move_set h
  · exact hc
  · exact can_set (set_srt hs _ _) (can_set hs hc _ (ng_lt _ _).sub) _ w1
end Go.Proofs.YtpcdgljcpacpiaaGreatDoor

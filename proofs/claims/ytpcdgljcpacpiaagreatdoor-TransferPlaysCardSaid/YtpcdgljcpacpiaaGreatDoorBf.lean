/- The bank, of no walk: rows stay rising; small numbers; the example. -/
import Derived.Test.YtpcdgljcpacpiaaGreatDoorBc
namespace Go.Proofs.YtpcdgljcpacpiaaGreatDoor
open Go.RowKit
theorem mint_inv {E : List Ent} (hs : Srt E) (a d : ByteArray) (n : Nat) : Srt (mintL E a d n).2 ∧ (mintL E a d n).2.length ≤ E.length + 2 := by
  have h1 := put_len hs (totB d) (wbB (ng E (totB d) + n))
  have s1 := put_srt hs (totB d) (wbB (ng E (totB d) + n))
  have h2 := put_len s1 (keyB a d) (wbB (ng E (keyB a d) + n))
  unfold mintL
  split
  · split
    · exact ⟨put_srt s1 _ _, by show (putL (putL E _ _) _ _).length ≤ _; omega⟩
    · exact ⟨List.Pairwise.nil, by show 0 ≤ _; omega⟩
  · exact ⟨List.Pairwise.nil, by show 0 ≤ _; omega⟩
theorem burn_inv {E : List Ent} (hs : Srt E) (a d : ByteArray) (n : Nat) : Srt (burnL E a d n).2 ∧ (burnL E a d n).2.length ≤ E.length + 2 := by
  have h1 := set_len hs (totB d) (ng E (totB d) - n)
  have s1 := set_srt hs (totB d) (ng E (totB d) - n)
  have h2 := set_len s1 (keyB a d) (ng E (keyB a d) - n)
  unfold burnL
  split
  · split
    · exact ⟨set_srt s1 _ _, by show (setL (setL E _ _) _ _).length ≤ _; omega⟩
    · exact ⟨List.Pairwise.nil, by show 0 ≤ _; omega⟩
  · exact ⟨List.Pairwise.nil, by show 0 ≤ _; omega⟩
theorem move_inv {E : List Ent} (hs : Srt E) (a b d : ByteArray) (n : Nat) : Srt (moveL E a b d n).2 ∧ (moveL E a b d n).2.length ≤ E.length + 2 := by
  have h1 := set_len hs (keyB a d) (ng E (keyB a d) - n)
  have s1 := set_srt hs (keyB a d) (ng E (keyB a d) - n)
  have h2 := set_len s1 (keyB b d) (ng E (keyB b d) + n)
  unfold moveL
  split
  · split
    · split
      · exact ⟨hs, by show E.length ≤ _; omega⟩
      · split
        · exact ⟨set_srt s1 _ _, by show (setL (setL E _ _) _ _).length ≤ _; omega⟩
        · exact ⟨List.Pairwise.nil, by show 0 ≤ _; omega⟩
    · exact ⟨List.Pairwise.nil, by show 0 ≤ _; omega⟩
  · exact ⟨List.Pairwise.nil, by show 0 ≤ _; omega⟩
theorem limb_small {n : Nat} (h : n < 18446744073709551616) : limb n 0 = (n : Int) ∧ limb n 1 = 0 ∧ limb n 2 = 0 ∧ limb n 3 = 0 := by
  rw [limb0, limb1, limb2, limb3]
  have h1 : n / 18446744073709551616 = 0 := Nat.div_eq_of_lt h
  have h0 : n % 18446744073709551616 = n := Nat.mod_eq_of_lt h
  rw [h1, h0]
  exact ⟨rfl, rfl, rfl, rfl⟩
theorem wv_small {n : Nat} (h : n < 18446744073709551616) : wv n = .agg #[.int .u64 (n : Int), .int .u64 0, .int .u64 0, .int .u64 0] := by
  obtain ⟨h0, h1, h2, h3⟩ := limb_small h
  show Value.agg #[.int .u64 (limb n 0), .int .u64 (limb n 1), .int .u64 (limb n 2), .int .u64 (limb n 3)] = _
  rw [h0, h1, h2, h3]
theorem W256.small {n : Nat} (h : n < 18446744073709551616) : W256 n := Nat.lt_of_lt_of_le h (by decide)
def bb : ByteArray := ⟨#[98]⟩
end Go.Proofs.YtpcdgljcpacpiaaGreatDoor

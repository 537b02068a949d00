/- Plain facts: the limbs determine the number. -/
import Derived.Test.YtibemleodghhfaaWd3
namespace Go.Proofs.Ytibemleodghhfaa
open Go.RowKit
def W256 (n : Nat) : Prop := n < 256 ^ 32
theorem W256.out {n : Nat} (h : W256 n) : n < 256 ^ 32 := h
theorem limb0 (n : Nat) : limb n 0 = ((n % 18446744073709551616 : Nat) : Int) := by simp [limb]
theorem limb1 (n : Nat) : limb n 1 = ((n / 18446744073709551616 % 18446744073709551616 : Nat) : Int) := by simp [limb]
theorem limb2 (n : Nat) : limb n 2 = ((n / 18446744073709551616 / 18446744073709551616 % 18446744073709551616 : Nat) : Int) := by
  unfold limb; rw [Nat.div_div_eq_div_mul]
theorem limb3 (n : Nat) : limb n 3 = ((n / 18446744073709551616 / 18446744073709551616 / 18446744073709551616 % 18446744073709551616 : Nat) : Int) := by
  unfold limb; rw [Nat.div_div_eq_div_mul, Nat.div_div_eq_div_mul]
theorem limbs_inj {n m : Nat} (hn : n < 256 ^ 32) (hm : m < 256 ^ 32) (h0 : limb n 0 = limb m 0) (h1 : limb n 1 = limb m 1) (h2 : limb n 2 = limb m 2) (h3 : limb n 3 = limb m 3) : n = m := by
  rw [limb0, limb0] at h0
  rw [limb1, limb1] at h1
  rw [limb2, limb2] at h2
  rw [limb3, limb3] at h3
  have e : ∀ x : Nat, x < 256 ^ 32 → x / 18446744073709551616 / 18446744073709551616 / 18446744073709551616 < 18446744073709551616 := fun x hx => by
    rw [Nat.div_div_eq_div_mul, Nat.div_div_eq_div_mul]
    exact Nat.div_lt_of_lt_mul hx
  have a := e n hn
  have b := e m hm
  clear hn hm e
  omega
/-- Four numbers of 64 bits are the limbs of one number. -/
theorem limbs_exist (a b c d : Nat) (ha : a < 18446744073709551616) (hb : b < 18446744073709551616) (hc : c < 18446744073709551616) (hd : d < 18446744073709551616) :
    ∃ n, n < 256 ^ 32 ∧ limb n 0 = (a : Int) ∧ limb n 1 = (b : Int) ∧ limb n 2 = (c : Int) ∧ limb n 3 = (d : Int) := by
  refine ⟨a + 18446744073709551616 * (b + 18446744073709551616 * (c + 18446744073709551616 * d)), ?_, ?_, ?_, ?_, ?_⟩
  · rw [← pow4]; simp only [Nat.pow_succ, Nat.pow_zero]; omega
  · rw [limb0]; omega
  · rw [limb1]; omega
  · rw [limb2]; omega
  · rw [limb3]; omega
theorem limbs_beq {n m : Nat} (hn : W256 n) (hm : W256 m) : (limb n 0 == limb m 0 && (limb n 1 == limb m 1 && (limb n 2 == limb m 2 && limb n 3 == limb m 3))) = decide (n = m) := by
  rw [Bool.eq_iff_iff]
  simp only [Bool.and_eq_true, beq_iff_eq, decide_eq_true_eq]
  exact ⟨fun ⟨a, b, c, d⟩ => limbs_inj hn hm a b c d, fun h => by subst h; exact ⟨rfl, rfl, rfl, rfl⟩⟩
theorem W256.wN (n : Nat) : W256 (wN n) := by
  unfold W256 Ytibemleodghhfaa.wN; split
  · assumption
  · exact Nat.pow_pos (by decide)
theorem W256.zero : W256 0 := by unfold W256; exact Nat.pow_pos (by decide)
theorem W256.sub {n m : Nat} (h : W256 n) : W256 (n - m) := by unfold W256 at *; omega
end Go.Proofs.Ytibemleodghhfaa

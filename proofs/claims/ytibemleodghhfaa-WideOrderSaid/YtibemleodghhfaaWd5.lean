/- Plain facts: a product by limbs, a quotient by limbs. -/
import Derived.Test.YtibemleodghhfaaWd4
namespace Go.Proofs.Ytibemleodghhfaa
open Go.RowKit
/-- What goes over into place k of the product. -/
def ov (N n k : Nat) : Nat := N % 18446744073709551616 ^ k * n / 18446744073709551616 ^ k
theorem ov_zero (N n : Nat) : ov N n 0 = 0 := by simp [ov, Nat.mod_one]
theorem ov_step (N n k : Nat) : N / 18446744073709551616 ^ k % 18446744073709551616 * n + ov N n k = N * n / 18446744073709551616 ^ k % 18446744073709551616 + 18446744073709551616 * ov N n (k + 1) := by
  have hp : 0 < 18446744073709551616 ^ k := Nat.pow_pos (by decide)
  unfold ov
  have e1 : N % 18446744073709551616 ^ (k + 1) = N % 18446744073709551616 ^ k + 18446744073709551616 ^ k * (N / 18446744073709551616 ^ k % 18446744073709551616) := by rw [Nat.pow_succ, Nat.mod_mul]
  have e2 : N % 18446744073709551616 ^ (k + 1) * n / 18446744073709551616 ^ (k + 1) = (N / 18446744073709551616 ^ k % 18446744073709551616 * n + N % 18446744073709551616 ^ k * n / 18446744073709551616 ^ k) / 18446744073709551616 := by
    rw [e1, Nat.pow_succ, ← Nat.div_div_eq_div_mul, Nat.add_mul, Nat.mul_assoc, Nat.add_mul_div_left _ _ hp]
    congr 1; omega
  have e3 : N * n / 18446744073709551616 ^ k % 18446744073709551616 = (N / 18446744073709551616 ^ k % 18446744073709551616 * n + N % 18446744073709551616 ^ k * n / 18446744073709551616 ^ k) % 18446744073709551616 := by
    have h1 := Nat.div_add_mod N (18446744073709551616 ^ k)
    have h2 : N * n = N % 18446744073709551616 ^ k * n + 18446744073709551616 ^ k * (N / 18446744073709551616 ^ k * n) := by
      conv => lhs; rw [← h1]
      grind
    rw [h2, Nat.add_mul_div_left _ _ hp]
    generalize N / 18446744073709551616 ^ k = q
    generalize N % 18446744073709551616 ^ k * n / 18446744073709551616 ^ k = o
    have h3 : o + q * n = q % 18446744073709551616 * n + o + 18446744073709551616 * (q / 18446744073709551616 * n) := by
      have h4 := Nat.div_add_mod q 18446744073709551616
      conv => lhs; rw [← h4]
      grind
    rw [h3, Nat.add_mul_mod_self_left]
  rw [e2, e3]
  omega
theorem ov_lt (N n k : Nat) (hn : n < 18446744073709551616) : ov N n k < 18446744073709551616 := by
  have hp : 0 < 18446744073709551616 ^ k := Nat.pow_pos (by decide)
  unfold ov
  rw [Nat.div_lt_iff_lt_mul hp]
  have h := Nat.mod_lt N hp
  rcases Nat.eq_zero_or_pos n with h0 | h0
  · subst h0; simp; exact hp
  · calc N % 18446744073709551616 ^ k * n < 18446744073709551616 ^ k * 18446744073709551616 := Nat.mul_lt_mul_of_lt_of_lt h hn
      _ = _ := Nat.mul_comm _ _
theorem ov_top (N n : Nat) (hN : N < 256 ^ 32) : ov N n 4 = N * n / 256 ^ 32 := by
  unfold ov; rw [pow4, Nat.mod_eq_of_lt hN]
def mhi (N n k : Nat) : Int := ((N / 18446744073709551616 ^ k % 18446744073709551616 * n / 18446744073709551616 : Nat) : Int)
def mlo (N n k : Nat) : Int := ((N / 18446744073709551616 ^ k % 18446744073709551616 * n % 18446744073709551616 : Nat) : Int)
def tcar (N n k : Nat) : Int := (mlo N n k + (ov N n k : Int)) / 18446744073709551616
theorem times_limb (N n k : Nat) : (mlo N n k + (ov N n k : Int) + 0) % 18446744073709551616 = limb (N * n) k ∧ (mlo N n k + (ov N n k : Int) + 0) / 18446744073709551616 = tcar N n k := by
  have h := ov_step N n k
  refine ⟨?_, by unfold tcar; omega⟩
  unfold mlo limb
  generalize N / 18446744073709551616 ^ k % 18446744073709551616 * n = p at *
  omega
theorem times_over (N n k : Nat) (hn : n < 18446744073709551616) : IntKind.u64.wrap (mhi N n k + tcar N n k) = (ov N n (k + 1) : Int) := by
  have h := ov_step N n k
  have h1 := ov_lt N n (k + 1) hn
  rw [IntKind.wrap_u64]
  unfold tcar mhi mlo
  generalize N / 18446744073709551616 ^ k % 18446744073709551616 * n = p at *
  omega
/-- What is left at place k of a quotient: of the limbs from k on. -/
def rst (N n k : Nat) : Nat := N / 18446744073709551616 ^ k % n
theorem part_limb (N n k : Nat) (hn : 0 < n) (_h : n < 18446744073709551616) :
    (rst N n (k + 1) * 18446744073709551616 + N / 18446744073709551616 ^ k % 18446744073709551616) / n = N / n / 18446744073709551616 ^ k % 18446744073709551616 ∧
    (rst N n (k + 1) * 18446744073709551616 + N / 18446744073709551616 ^ k % 18446744073709551616) % n = rst N n k := by
  unfold rst
  have e : N / 18446744073709551616 ^ k = 18446744073709551616 * (N / 18446744073709551616 ^ (k + 1)) + N / 18446744073709551616 ^ k % 18446744073709551616 := by
    rw [Nat.pow_succ, ← Nat.div_div_eq_div_mul]; omega
  have e2 : N / n / 18446744073709551616 ^ k = N / 18446744073709551616 ^ k / n := by rw [Nat.div_div_eq_div_mul, Nat.div_div_eq_div_mul, Nat.mul_comm]
  rw [e2]
  have hy : N / 18446744073709551616 ^ k % 18446744073709551616 < 18446744073709551616 := Nat.mod_lt _ (by decide)
  generalize N / 18446744073709551616 ^ k % 18446744073709551616 = y at *
  generalize N / 18446744073709551616 ^ k = Y at *
  generalize N / 18446744073709551616 ^ (k + 1) = X at *
  have h1 := Nat.div_add_mod X n
  have h2 := Nat.mod_lt X hn
  have h3 : Y = X % n * 18446744073709551616 + y + n * (18446744073709551616 * (X / n)) := by
    rw [e]
    conv => lhs; rw [← h1]
    grind
  have h4 : X % n * 18446744073709551616 + y < 18446744073709551616 * n := by
    have : (X % n + 1) * 18446744073709551616 ≤ n * 18446744073709551616 := Nat.mul_le_mul_right _ h2
    omega
  constructor
  · rw [h3, Nat.add_mul_div_left _ _ hn]
    have h5 : (X % n * 18446744073709551616 + y) / n < 18446744073709551616 := (Nat.div_lt_iff_lt_mul hn).2 h4
    rw [Nat.add_mul_mod_self_left, Nat.mod_eq_of_lt h5]
  · rw [h3, Nat.add_mul_mod_self_left]
theorem rst_top (N n : Nat) (hN : N < 256 ^ 32) : rst N n 4 = 0 := by
  unfold rst; rw [pow4, Nat.div_eq_of_lt hN, Nat.zero_mod]
theorem rst_bot (N n : Nat) : rst N n 0 = N % n := by simp [rst]
theorem rst_lt (N n k : Nat) (hn : 0 < n) : rst N n k < n := Nat.mod_lt _ hn
end Go.Proofs.Ytibemleodghhfaa

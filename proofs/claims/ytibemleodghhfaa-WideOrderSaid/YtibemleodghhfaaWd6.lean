/- Plain facts: the division of two words by one, as the library does it. -/
import Derived.Test.YtibemleodghhfaaWd5
namespace Go.Proofs.Ytibemleodghhfaa
open Go.RowKit
/-- The guess q with its rest r for the digit of (u * 2^32 + x) / y, never too small. -/
def Guess (u x y q r : Nat) : Prop := q * (y / 4294967296) + r = u ∧ (u * 4294967296 + x) / y ≤ q ∧ q ≤ 4294967297
theorem sum_lt {A b c U R x : Nat} (h5 : c = A + b) (h9 : U = A + R) (hc : R + x < b) : U + x < c := by omega
structure Norm (u x y : Nat) : Prop where
  y1 : 9223372036854775808 ≤ y
  y2 : y < 18446744073709551616
  hu : u < y
  hx : x < 4294967296
section
variable {u x y q r : Nat}
theorem Guess.start (h : Norm u x y) : Guess u x y (u / (y / 4294967296)) (u - u / (y / 4294967296) * (y / 4294967296)) := by
  obtain ⟨h1, h2, h3, h4⟩ := h
  have hp : 0 < y / 4294967296 := by omega
  have hy : 0 < y := by omega
  have e := Nat.div_add_mod u (y / 4294967296)
  have em := Nat.mul_comm (y / 4294967296) (u / (y / 4294967296))
  refine ⟨by omega, ?_, ?_⟩
  · have h5 : (u * 4294967296 + x) / y < u / (y / 4294967296) + 1 := by
      rw [Nat.div_lt_iff_lt_mul hy]
      have h6 : u < (u / (y / 4294967296) + 1) * (y / 4294967296) := by
        have := Nat.mod_lt u hp
        rw [Nat.add_mul]; omega
      have h7 : (u + 1) * 4294967296 ≤ (u / (y / 4294967296) + 1) * (y / 4294967296) * 4294967296 := Nat.mul_le_mul_right _ h6
      have h8 : (u / (y / 4294967296) + 1) * (y / 4294967296) * 4294967296 ≤ (u / (y / 4294967296) + 1) * y := by
        rw [Nat.mul_assoc]
        exact Nat.mul_le_mul_left _ (Nat.div_mul_le_self _ _)
      omega
    omega
  · have h5 : u / (y / 4294967296) < 4294967298 := by
      rw [Nat.div_lt_iff_lt_mul hp]
      omega
    omega
theorem Guess.next (h : Norm u x y) (g : Guess u x y q r) (hc : 4294967296 ≤ q ∨ r * 4294967296 + x < q * (y % 4294967296)) : Guess u x y (q - 1) (r + y / 4294967296) ∧ 0 < q ∧ q - 1 ≤ 4294967296 := by
  obtain ⟨h1, h2, h3, h4⟩ := h
  obtain ⟨g1, g2, g3⟩ := g
  have hy : 0 < y := by omega
  have hlt : (u * 4294967296 + x) / y < q := by
    rw [Nat.div_lt_iff_lt_mul hy]
    rcases hc with hc | hc
    · have h5 : 4294967296 * y ≤ q * y := Nat.mul_le_mul_right _ hc
      have h6 : (u + 1) * 4294967296 ≤ y * 4294967296 := Nat.mul_le_mul_right _ h3
      omega
    · have e := Nat.div_add_mod y 4294967296
      have h5 : q * y = q * (y / 4294967296) * 4294967296 + q * (y % 4294967296) := by
        conv => lhs; rw [← e]
        grind
      have h9 : u * 4294967296 = q * (y / 4294967296) * 4294967296 + r * 4294967296 := by rw [← Nat.add_mul, g1]
      exact sum_lt h5 h9 hc
  have hq0 : 0 < q := Nat.lt_of_le_of_lt (Nat.zero_le _) hlt
  obtain ⟨p, rfl⟩ : ∃ p, q = p + 1 := ⟨q - 1, by omega⟩
  refine ⟨⟨?_, by omega, by omega⟩, by omega, by omega⟩
  rw [Nat.add_sub_cancel, ← g1, Nat.add_mul]; omega
theorem Guess.done (h : Norm u x y) (g : Guess u x y q r) (hc : q * (y % 4294967296) ≤ r * 4294967296 + x) : q = (u * 4294967296 + x) / y := by
  obtain ⟨h1, h2, h3, h4⟩ := h
  obtain ⟨g1, g2, g3⟩ := g
  have hy : 0 < y := by omega
  have e := Nat.div_add_mod y 4294967296
  have h5 : q * y = q * (y / 4294967296) * 4294967296 + q * (y % 4294967296) := by
    conv => lhs; rw [← e]
    grind
  have h6 : q * y ≤ u * 4294967296 + x := by rw [h5, ← g1, Nat.add_mul]; omega
  have h7 : q ≤ (u * 4294967296 + x) / y := (Nat.le_div_iff_mul_le hy).2 h6
  omega
theorem Guess.big (h : Norm u x y) (g : Guess u x y q r) (hq : q ≤ 4294967296) (hr : 4294967296 ≤ r) : q = (u * 4294967296 + x) / y := by
  refine g.done h ?_
  have h5 : q * (y % 4294967296) ≤ 4294967296 * 4294967295 := Nat.mul_le_mul hq (by omega)
  omega
theorem quo_lt (h : Norm u x y) : (u * 4294967296 + x) / y < 4294967296 := by
  obtain ⟨h1, h2, h3, h4⟩ := h
  rw [Nat.div_lt_iff_lt_mul (by omega)]
  omega
end
/-- The rest, counted modulo 2^64, is the rest. -/
theorem rest_wrap (u x y : Nat) (hy : 0 < y) (h2 : y < 18446744073709551616) :
    ((u : Int) * 4294967296 + x - ((u * 4294967296 + x) / y : Nat) * y) % 18446744073709551616 = (((u * 4294967296 + x) % y : Nat) : Int) := by
  have e := Nat.div_add_mod (u * 4294967296 + x) y
  have l := Nat.mod_lt (u * 4294967296 + x) hy
  have c : ((((u * 4294967296 + x) / y * y : Nat)) : Int) = ((u * 4294967296 + x) / y : Nat) * (y : Int) := by rw [Int.natCast_mul]
  rw [← c]
  clear c
  have m := Nat.mul_comm y ((u * 4294967296 + x) / y)
  generalize (u * 4294967296 + x) / y * y = z at *
  omega
/-- Two digits one after the other are the quotient of the whole. -/
theorem quo_two (u x0 x1 y : Nat) (hy : 0 < y) :
    (u * 4294967296 + x1) / y * 4294967296 + ((u * 4294967296 + x1) % y * 4294967296 + x0) / y = (u * 18446744073709551616 + (x1 * 4294967296 + x0)) / y ∧
    ((u * 4294967296 + x1) % y * 4294967296 + x0) % y = (u * 18446744073709551616 + (x1 * 4294967296 + x0)) % y := by
  have e := Nat.div_add_mod (u * 4294967296 + x1) y
  have t : u * 18446744073709551616 + (x1 * 4294967296 + x0) = (u * 4294967296 + x1) % y * 4294967296 + x0 + y * ((u * 4294967296 + x1) / y * 4294967296) := by
    have : (y * ((u * 4294967296 + x1) / y) + (u * 4294967296 + x1) % y) * 4294967296 + x0 = (u * 4294967296 + x1) * 4294967296 + x0 := by rw [e]
    grind
  rw [t, Nat.add_mul_div_left _ _ hy, Nat.add_mul_mod_self_left]
  exact ⟨Nat.add_comm _ _, rfl⟩
theorem shift_quo (a b s : Nat) : a * 2 ^ s / (b * 2 ^ s) = a / b ∧ a * 2 ^ s % (b * 2 ^ s) / 2 ^ s = a % b := by
  have hp : 0 < 2 ^ s := Nat.two_pow_pos s
  refine ⟨Nat.mul_div_mul_right _ _ hp, ?_⟩
  rw [Nat.mul_mod_mul_right, Nat.mul_div_cancel _ hp]
end Go.Proofs.Ytibemleodghhfaa

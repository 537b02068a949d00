/- Plain facts: what the library's division makes ready. -/
import Derived.Test.YtibemleodghhfaaWd6
import Derived.Laws.MathBits
import Derived.Shelf.Strconv.Itoa0
namespace Go.Proofs.Ytibemleodghhfaa
open Go.RowKit
theorem wrap_nat (a : Nat) (h : a < 18446744073709551616) : IntKind.u64.wrap (a : Int) = (a : Int) := by
  rw [IntKind.wrap_u64]; omega
theorem shl_wrap (a s : Nat) : IntKind.u64.wrap ((a : Int) * 2 ^ s) = ((a * 2 ^ s % 18446744073709551616 : Nat) : Int) := by
  rw [IntKind.wrap_u64]
  have : (a : Int) * 2 ^ s = ((a * 2 ^ s : Nat) : Int) := by simp
  rw [this]; omega
theorem mask32 (X : Nat) (h : X < 18446744073709551616) : bits .and .u64 (X : Int) 4294967295 = ((X % 4294967296 : Nat) : Int) := by
  rw [and_low32 _ (Int.natCast_nonneg _) (by omega)]; omega
theorem pow_le63 (s : Nat) (hs : s ≤ 63) : 2 ^ s * 2 ^ (64 - s) = 18446744073709551616 := by
  rw [← Nat.pow_add, show s + (64 - s) = 64 by omega]
theorem or_high (hi lo s : Nat) (hs : s ≤ 63) (hh : hi * 2 ^ s < 18446744073709551616) (hl : lo < 18446744073709551616) :
    bits .or .u64 ((hi * 2 ^ s : Nat) : Int) ((lo : Int) / 2 ^ (64 - s)) = ((hi * 2 ^ s + lo / 2 ^ (64 - s) : Nat) : Int) := by
  have e : (lo : Int) / 2 ^ (64 - s) = ((lo / 2 ^ (64 - s) : Nat) : Int) := by simp
  have h1 : lo / 2 ^ (64 - s) < 2 ^ s := by
    rw [Nat.div_lt_iff_lt_mul (Nat.two_pow_pos _), pow_le63 s hs]; exact hl
  have h2 := Nat.div_le_self lo (2 ^ (64 - s))
  rw [e, u64_or_nat _ _ hh (by omega), Nat.or_comm, or_apart _ _ _ h1, Nat.add_comm]
/-- The numbers made ready, all at once. -/
structure Ready (hi lo y s H Y u L x1 x0 y1 y0 : Nat) : Prop where
  hY : IntKind.u64.wrap ((y : Int) * 2 ^ s) = (Y : Int)
  hH : IntKind.u64.wrap ((hi : Int) * 2 ^ s) = (H : Int)
  hu : bits .or .u64 (H : Int) ((lo : Int) / 2 ^ (64 - s)) = (u : Int)
  hL : IntKind.u64.wrap ((lo : Int) * 2 ^ s) = (L : Int)
  hx1 : (L : Int) / 4294967296 = (x1 : Int)
  hx0 : bits .and .u64 (L : Int) 4294967295 = (x0 : Int)
  hy1 : (Y : Int) / 4294967296 = (y1 : Int)
  hy0 : bits .and .u64 (Y : Int) 4294967295 = (y0 : Int)
  eY : Y = y * 2 ^ s
  eu : u * 18446744073709551616 + L = (hi * 18446744073709551616 + lo) * 2 ^ s
  eL : L = x1 * 4294967296 + x0
  ey : Y / 4294967296 = y1 ∧ Y % 4294967296 = y0
  b1 : 9223372036854775808 ≤ Y
  b2 : Y < 18446744073709551616
  b3 : u < Y
  b4 : x1 < 4294967296
  b5 : x0 < 4294967296
theorem ready (hi lo y s : Nat) (hs : s ≤ 63) (h1 : 9223372036854775808 ≤ y * 2 ^ s) (h2 : y * 2 ^ s < 18446744073709551616) (hhy : hi < y) (hl : lo < 18446744073709551616) :
    ∃ H Y u L x1 x0 y1 y0, Ready hi lo y s H Y u L x1 x0 y1 y0 := by
  have hp := Nat.two_pow_pos s
  have hp2 := Nat.two_pow_pos (64 - s)
  have hH : hi * 2 ^ s < 18446744073709551616 := by
    have := Nat.mul_le_mul_right (2 ^ s) (show hi ≤ y by omega); omega
  have h3 : lo / 2 ^ (64 - s) < 2 ^ s := by
    rw [Nat.div_lt_iff_lt_mul hp2, pow_le63 s hs]; exact hl
  have h4 : hi * 2 ^ s + 2 ^ s ≤ y * 2 ^ s := by
    have := Nat.mul_le_mul_right (2 ^ s) hhy; rw [Nat.succ_mul] at this; exact this
  have h5 : lo * 2 ^ s = lo / 2 ^ (64 - s) * 18446744073709551616 + lo * 2 ^ s % 18446744073709551616 := by
    have e : lo * 2 ^ s / 18446744073709551616 = lo / 2 ^ (64 - s) := by
      rw [← pow_le63 s hs, Nat.mul_comm lo, Nat.mul_div_mul_left _ _ hp]
    have := Nat.div_add_mod (lo * 2 ^ s) 18446744073709551616
    rw [e] at this; omega
  have h6 : lo * 2 ^ s % 18446744073709551616 < 18446744073709551616 := Nat.mod_lt _ (by decide)
  refine ⟨hi * 2 ^ s, y * 2 ^ s, hi * 2 ^ s + lo / 2 ^ (64 - s), lo * 2 ^ s % 18446744073709551616, lo * 2 ^ s % 18446744073709551616 / 4294967296, lo * 2 ^ s % 18446744073709551616 % 4294967296, y * 2 ^ s / 4294967296, y * 2 ^ s % 4294967296, ?_⟩
  constructor
  · rw [shl_wrap, Nat.mod_eq_of_lt h2]
  · rw [shl_wrap, Nat.mod_eq_of_lt hH]
  · exact or_high hi lo s hs hH hl
  · exact shl_wrap lo s
  · omega
  · exact mask32 _ h6
  · omega
  · exact mask32 _ h2
  · rfl
  · have e := Nat.mul_right_comm hi (2 ^ s) 18446744073709551616
    rw [Nat.add_mul, Nat.add_mul, ← e, Nat.add_assoc, ← h5]
  · generalize lo * 2 ^ s % 18446744073709551616 = L
    omega
  · exact ⟨rfl, rfl⟩
  · exact h1
  · exact h2
  · omega
  · generalize lo * 2 ^ s % 18446744073709551616 = L at *
    omega
  · exact Nat.mod_lt _ (by decide)
theorem bitLenAux_spec : ∀ (f x : Nat), x < 2 ^ f → 0 < x → x < 2 ^ Lib.bitLenAux f x ∧ 2 ^ Lib.bitLenAux f x ≤ 2 * x ∧ Lib.bitLenAux f x ≤ f ∧ 0 < Lib.bitLenAux f x := by
  intro f
  induction f with
  | zero => intro x h h0; simp at h; omega
  | succ f ih =>
    intro x h h0
    unfold Lib.bitLenAux
    rw [if_neg (by omega)]
    by_cases hx : x / 2 = 0
    · have hx1 : x = 1 := by omega
      subst hx1
      have e : Lib.bitLenAux f (1 / 2) = 0 := by cases f <;> simp [Lib.bitLenAux]
      rw [e]; simp
    · obtain ⟨h1, h2, h3, h4⟩ := ih (x / 2) (by rw [Nat.pow_succ] at h; omega) (by omega)
      rw [Nat.add_comm 1, Nat.pow_succ]
      omega
theorem norm_of (y : Nat) (h0 : 0 < y) (h1 : y < 18446744073709551616) : 64 - Lib.bitLen y ≤ 63 ∧ Lib.bitLen y ≤ 64 ∧ 9223372036854775808 ≤ y * 2 ^ (64 - Lib.bitLen y) ∧ y * 2 ^ (64 - Lib.bitLen y) < 18446744073709551616 := by
  obtain ⟨a, b, c, d⟩ := bitLenAux_spec 64 y h1 h0
  show 64 - Lib.bitLenAux 64 y ≤ 63 ∧ Lib.bitLenAux 64 y ≤ 64 ∧ 9223372036854775808 ≤ y * 2 ^ (64 - Lib.bitLenAux 64 y) ∧ y * 2 ^ (64 - Lib.bitLenAux 64 y) < 18446744073709551616
  generalize Lib.bitLenAux 64 y = n at *
  have e : 2 ^ n * 2 ^ (64 - n) = 18446744073709551616 := by rw [← Nat.pow_add, show n + (64 - n) = 64 by omega]
  have hp := Nat.two_pow_pos (64 - n)
  refine ⟨by omega, c, ?_, ?_⟩
  · have := Nat.mul_le_mul_right (2 ^ (64 - n)) b
    rw [e, Nat.mul_assoc] at this
    omega
  · have := Nat.mul_lt_mul_of_pos_right a hp
    rw [e] at this
    exact this
end Go.Proofs.Ytibemleodghhfaa
